/- texts of numbers -/
import Derived.KernelRfl
import Derived.Lib.ItoaNum
import Derived.Lib.Repeat
import Derived.Lib.AtoiAll
import Derived.Lib.IndexMore
namespace Go.Proofs.YtbafnlccpbonmaaGreatDoor
set_option linter.unusedVariables false
set_option linter.unnecessarySimpa false
set_option linter.unusedSimpArgs false

/-- What a list of digits denotes. -/
def valD : List Int → Int
  | [] => 0
  | d :: l => d + 10 * valD l
/-- All are digits. -/
def Dig (l : List Int) : Prop := ∀ d ∈ l, 0 ≤ d ∧ d ≤ 9
def p10 (n : Nat) : Int := 10 ^ n
theorem p10_zero : p10 0 = 1 := rfl
theorem p10_succ (n : Nat) : p10 (n + 1) = 10 * p10 n := by unfold p10; rw [Int.pow_succ]; omega
theorem p10_pos (n : Nat) : 0 < p10 n := by
  induction n with
  | zero => decide
  | succ n ih => rw [p10_succ]; omega
theorem p10_add (a b : Nat) : p10 (a + b) = p10 a * p10 b := by unfold p10; exact Int.pow_add 10 a b
theorem p10_mono {a b : Nat} (h : a ≤ b) : p10 a ≤ p10 b := by
  induction b with
  | zero => obtain rfl : a = 0 := (by omega)
            exact Int.le_refl _
  | succ b ih =>
    rcases Nat.lt_or_ge b a with h' | h'
    · obtain rfl : a = b + 1 := by omega
      exact Int.le_refl _
    · have := ih h'; have := p10_pos b; rw [p10_succ]; omega
theorem Dig.cons {d : Int} {l : List Int} (h : Dig (d :: l)) : 0 ≤ d ∧ d ≤ 9 ∧ Dig l := ⟨(h d (by simp)).1, (h d (by simp)).2, fun x hx => h x (by simp [hx])⟩
theorem Dig.nil : Dig [] := fun d h => by cases h
theorem Dig.mk {d : Int} {l : List Int} (h0 : 0 ≤ d) (h9 : d ≤ 9) (h : Dig l) : Dig (d :: l) := by
  intro x hx
  rcases List.mem_cons.1 hx with rfl | hx
  · exact ⟨h0, h9⟩
  · exact h x hx
theorem Dig.app {l m : List Int} (h : Dig l) (h' : Dig m) : Dig (l ++ m) := by
  intro x hx
  rcases List.mem_append.1 hx with hx | hx
  · exact h x hx
  · exact h' x hx
theorem Dig.take {l : List Int} (h : Dig l) (n : Nat) : Dig (l.take n) := fun d hd => h d (List.mem_of_mem_take hd)
theorem Dig.drop {l : List Int} (h : Dig l) (n : Nat) : Dig (l.drop n) := fun d hd => h d (List.mem_of_mem_drop hd)
theorem valD_app (l m : List Int) : valD (l ++ m) = valD l + p10 l.length * valD m := by
  induction l with
  | nil => simp [valD, p10_zero]
  | cons d l ih =>
    simp only [List.cons_append, valD, List.length_cons, ih, p10_succ]
    rw [Int.mul_add, Int.mul_assoc]
    omega
theorem valD_nonneg {l : List Int} (h : Dig l) : 0 ≤ valD l := by
  induction l with
  | nil => exact Int.le_refl _
  | cons d l ih => obtain ⟨h0, _, h'⟩ := h.cons; have := ih h'; simp only [valD]; omega
theorem valD_lt {l : List Int} (h : Dig l) : valD l < p10 l.length := by
  induction l with
  | nil => decide
  | cons d l ih => obtain ⟨_, h9, h'⟩ := h.cons; have := ih h'; simp only [valD, List.length_cons, p10_succ]; omega
/-- The digits of a number, without superfluous zeros. -/
def digs (n : Nat) : List Int := if h : n = 0 then [] else ((n % 10 : Nat) : Int) :: digs (n / 10)
decreasing_by omega
theorem digs_zero : digs 0 = [] := by rw [digs]; simp
theorem digs_pos {n : Nat} (h : n ≠ 0) : digs n = ((n % 10 : Nat) : Int) :: digs (n / 10) := by rw [digs, dif_neg h]
theorem valD_digs (n : Nat) : valD (digs n) = n := by
  induction n using Nat.strongRecOn with
  | _ n ih =>
    by_cases h : n = 0
    · subst h; rw [digs_zero]; rfl
    · rw [digs_pos h, valD, ih (n / 10) (by omega)]; omega
theorem dig_digs (n : Nat) : Dig (digs n) := by
  induction n using Nat.strongRecOn with
  | _ n ih =>
    by_cases h : n = 0
    · subst h; rw [digs_zero]; exact Dig.nil
    · rw [digs_pos h]; exact Dig.mk (by omega) (by omega) (ih (n / 10) (by omega))
theorem digs_nil {n : Nat} : digs n = [] ↔ n = 0 := by
  constructor
  · intro h
    by_cases h' : n = 0
    · exact h'
    · rw [digs_pos h'] at h; cases h
  · rintro rfl; exact digs_zero
/-- No superfluous zero. -/
def Trim (l : List Int) : Prop := ∀ d, l.getLast? = some d → d ≠ 0
theorem valD_pos {l : List Int} (h : Dig l) (ht : Trim l) (hne : l ≠ []) : 0 < valD l := by
  induction l with
  | nil => exact absurd rfl hne
  | cons d l ih =>
    obtain ⟨h0, h9, h'⟩ := h.cons
    simp only [valD]
    cases l with
    | nil =>
      have := ht d (by simp)
      simp only [valD]; omega
    | cons e l =>
      have := ih h' (fun x hx => ht x (by simpa using hx)) (by simp)
      omega
theorem digs_of {l : List Int} (h : Dig l) (ht : Trim l) : l = digs (valD l).toNat := by
  induction l with
  | nil => simp [valD, digs_zero]
  | cons d l ih =>
    obtain ⟨h0, h9, h'⟩ := h.cons
    have hp := valD_pos h ht (by simp)
    have hl := valD_nonneg h'
    have ht' : Trim l := fun x hx => ht x (by
      cases l with
      | nil => cases hx
      | cons e l => simpa using hx)
    have := ih h' ht'
    simp only [valD] at hp ⊢
    rw [digs_pos (by omega), show ((d + 10 * valD l).toNat % 10 : Nat) = d.toNat by omega, show (d + 10 * valD l).toNat / 10 = (valD l).toNat by omega, ← this]
    congr 1
    omega
theorem trim_digs (n : Nat) : Trim (digs n) := by
  induction n using Nat.strongRecOn with
  | _ n ih =>
    intro d hd
    by_cases h : n = 0
    · subst h; rw [digs_zero] at hd; cases hd
    · rw [digs_pos h] at hd
      by_cases h2 : n / 10 = 0
      · rw [h2, digs_zero] at hd
        simp only [List.getLast?_singleton, Option.some.injEq] at hd
        omega
      · refine ih (n / 10) (by omega) d ?_
        cases hc : digs (n / 10) with
        | nil => exact absurd (digs_nil.1 hc) h2
        | cons e l => rw [hc] at hd; simpa using hd
/-- The digits that are left when the zeros behind are struck. -/
theorem take_digs {l : List Int} (h : Dig l) {n : Nat} (hn : n ≤ l.length) (hv : valD (l.take n) = valD l) (hz : ∀ d, 0 < n → l[n - 1]? = some d → d ≠ 0) : l.take n = digs (valD l).toNat := by
  rw [← hv]
  refine digs_of (h.take n) fun d hd => ?_
  rw [List.getLast?_take] at hd
  split at hd
  · cases hd
  · rename_i h0
    have hn0 : 0 < n := by omega
    have hlt : n - 1 < l.length := by omega
    rw [List.getElem?_eq_getElem hlt] at hd
    simp only [Option.some_or, Option.some.injEq] at hd
    exact hz d hn0 (by rw [List.getElem?_eq_getElem hlt]; simpa using hd)
theorem valD_take_zero {l : List Int} {n : Nat} (hn : l[n]? = some 0) : valD (l.take (n + 1)) = valD (l.take n) := by
  rw [List.take_add_one, hn, valD_app]
  simp [valD]
theorem len_digs_le {n k : Nat} (h : n < 10 ^ k) : (digs n).length ≤ k := by
  induction k generalizing n with
  | zero => obtain rfl : n = 0 := by simpa using h
            rw [digs_zero]; simp
  | succ k ih =>
    by_cases h0 : n = 0
    · subst h0; rw [digs_zero]; simp
    · rw [digs_pos h0]
      have := ih (n := n / 10) (by rw [Nat.pow_succ] at h; omega)
      simp; omega
theorem len_digs_gt {n k : Nat} (h : 10 ^ k ≤ n) : k < (digs n).length := by
  induction k generalizing n with
  | zero =>
    have h1 : n ≠ 0 := by simp at h; omega
    rw [digs_pos h1]; simp
  | succ k ih =>
    have hp : 0 < 10 ^ k := Nat.pow_pos (by omega)
    have h1 : n ≠ 0 := by rw [Nat.pow_succ] at h; omega
    rw [digs_pos h1]
    have := ih (n := n / 10) (by rw [Nat.pow_succ] at h; omega)
    simp; omega
/-- A digit, or zero beyond the end. -/
def dg (l : List Int) (i : Nat) : Int := l.getD i 0
theorem dg_dig {l : List Int} (h : Dig l) (i : Nat) : 0 ≤ dg l i ∧ dg l i ≤ 9 := by
  unfold dg
  rcases Nat.lt_or_ge i l.length with h' | h'
  · rw [List.getD_eq_getElem?_getD, List.getElem?_eq_getElem h']; exact h _ (List.getElem_mem h')
  · rw [List.getD_eq_getElem?_getD, List.getElem?_eq_none h']; decide
theorem valD_drop (l : List Int) (i : Nat) : valD (l.drop i) = dg l i + 10 * valD (l.drop (i + 1)) := by
  unfold dg
  rcases Nat.lt_or_ge i l.length with h' | h'
  · rw [List.drop_eq_getElem_cons h', valD, List.getD_eq_getElem?_getD, List.getElem?_eq_getElem h']; rfl
  · rw [List.drop_of_length_le h', List.drop_of_length_le (by omega), List.getD_eq_getElem?_getD, List.getElem?_eq_none h']; rfl
theorem valD_take (l : List Int) (i : Nat) : valD (l.take (i + 1)) = valD (l.take i) + p10 i * dg l i := by
  unfold dg
  rcases Nat.lt_or_ge i l.length with h' | h'
  · rw [List.take_add_one, List.getElem?_eq_getElem h', valD_app, List.length_take, Nat.min_eq_left (by omega), List.getD_eq_getElem?_getD, List.getElem?_eq_getElem h']
    simp [valD]
  · rw [List.take_of_length_le (by omega), List.take_of_length_le h', List.getD_eq_getElem?_getD, List.getElem?_eq_none h']; simp
theorem valD_split (l : List Int) (i : Nat) : valD l = valD (l.take i) + p10 i * valD (l.drop i) := by
  rcases Nat.lt_or_ge l.length i with h' | h'
  · rw [List.take_of_length_le (by omega), List.drop_of_length_le (by omega)]; simp [valD]
  · have := valD_app (l.take i) (l.drop i)
    rw [List.take_append_drop, List.length_take, Nat.min_eq_left h'] at this
    exact this
theorem valD_take_lt {l : List Int} (h : Dig l) (i : Nat) : valD (l.take i) < p10 i := by
  have := valD_lt (h.take i)
  have h2 : p10 (l.take i).length ≤ p10 i := p10_mono (by rw [List.length_take]; omega)
  omega
/-- The greater digit decides. -/
theorem valD_cmp_lt {a b : List Int} (ha : Dig a) (hb : Dig b) {i : Nat} (hd : valD (a.drop (i + 1)) = valD (b.drop (i + 1))) (hlt : dg a i < dg b i) : valD a < valD b := by
  rw [valD_split a i, valD_split b i]
  have h1 : valD (a.drop i) + 1 ≤ valD (b.drop i) := by rw [valD_drop a i, valD_drop b i, hd]; omega
  have h2 := valD_take_lt ha i
  have h3 := valD_nonneg (hb.take i)
  have h4 : p10 i * (valD (a.drop i) + 1) ≤ p10 i * valD (b.drop i) := Int.mul_le_mul_of_nonneg_left h1 (Int.le_of_lt (p10_pos i))
  rw [Int.mul_add] at h4
  omega
theorem tdiv_bd {n P M : Int} (hP : 0 < P) (h0 : -M ≤ n) (h1 : n ≤ M) : -M ≤ n.tdiv P ∧ n.tdiv P ≤ M := by
  rcases Int.le_total 0 n with h | h
  · rw [Int.tdiv_eq_ediv_of_nonneg h]
    have h2 := Int.ediv_nonneg h (Int.le_of_lt hP)
    have h3 := Int.ediv_le_self P h
    omega
  · have h4 : n.tdiv P = -((-n) / P) := by
      rw [← Int.tdiv_eq_ediv_of_nonneg (by omega), Int.neg_tdiv, Int.neg_neg]
    rw [h4]
    have h2 := Int.ediv_nonneg (a := -n) (by omega) (Int.le_of_lt hP)
    have h3 := Int.ediv_le_self (a := -n) P (by omega)
    omega
theorem tmod_bd {n P : Int} (hP : 0 < P) : -P < n.tmod P ∧ n.tmod P < P ∧ (0 ≤ n → 0 ≤ n.tmod P) ∧ (n ≤ 0 → n.tmod P ≤ 0) := by
  rcases Int.le_total 0 n with h | h
  · rw [Int.tmod_eq_emod_of_nonneg h]
    have h2 := Int.emod_nonneg n (Int.ne_of_gt hP)
    have h3 := Int.emod_lt_of_pos n hP
    refine ⟨by omega, by omega, fun _ => h2, fun h' => ?_⟩
    obtain rfl : n = 0 := by omega
    simp
  · have h4 : n.tmod P = -((-n) % P) := by
      rw [← Int.tmod_eq_emod_of_nonneg (by omega), Int.neg_tmod, Int.neg_neg]
    rw [h4]
    have h2 := Int.emod_nonneg (-n) (Int.ne_of_gt hP)
    have h3 := Int.emod_lt_of_pos (-n) hP
    refine ⟨by omega, by omega, fun h' => ?_, fun _ => by omega⟩
    obtain rfl : n = 0 := by omega
    simp
theorem tparts (n P : Int) : n = n.tdiv P * P + n.tmod P := by
  have := Int.mul_tdiv_add_tmod n P
  rw [Int.mul_comm] at this
  omega
theorem tmod_mul_bd {n P R : Int} (hP : 0 < P) (hR : 0 < R) : -(P * R) < n.tmod P * R ∧ n.tmod P * R < P * R := by
  obtain ⟨h1, h2, _, _⟩ := tmod_bd (n := n) hP
  have h3 : n.tmod P * R < P * R := Int.mul_lt_mul_of_pos_right h2 hR
  have h4 : -P * R < n.tmod P * R := Int.mul_lt_mul_of_pos_right h1 hR
  rw [Int.neg_mul] at h4
  exact ⟨h4, h3⟩
end Go.Proofs.YtbafnlccpbonmaaGreatDoor

namespace Go.Proofs.YtbafnlccpbonmaaGreatDoor
set_option linter.unusedVariables false
set_option linter.unnecessarySimpa false
set_option linter.unusedSimpArgs false

/-- A digit's byte. -/
def asc (d : Int) : UInt8 := UInt8.ofNat (48 + d.toNat)
/-- The bytes of the digits 0 .. k - 1, the last digit of the number first. -/
def lowN (D : List Int) (k : Nat) : List UInt8 := (List.range k).map fun i => asc (dg D i)
theorem lowN_len (D : List Int) (k : Nat) : (lowN D k).length = k := by simp [lowN]
theorem lowN_succ (D : List Int) (k : Nat) : lowN D (k + 1) = lowN D k ++ [asc (dg D k)] := by simp [lowN, List.range_succ]
theorem lowN_cons (d : Int) (D : List Int) (k : Nat) : lowN (d :: D) (k + 1) = asc d :: lowN D k := by
  simp only [lowN, List.range_succ_eq_map, List.map_cons, List.map_map]
  congr 1
theorem lowN_nil (k : Nat) : lowN [] k = List.replicate k 48 := by
  induction k with
  | zero => rfl
  | succ k ih => rw [lowN_succ, ih, List.replicate_succ']; rfl
theorem lowN_zeros (D : List Int) (c : Nat) : lowN D (D.length + c) = lowN D D.length ++ List.replicate c 48 := by
  induction c with
  | zero => simp
  | succ c ih =>
    rw [← Nat.add_assoc, lowN_succ, ih, List.replicate_succ', ← List.append_assoc]
    congr 1
    unfold dg
    rw [List.getD_eq_getElem?_getD, List.getElem?_eq_none (by omega)]
    rfl
/-- The bytes of the text without its sign, the last one first: a point ahead of digit s. -/
def pre (D : List Int) (s : Nat) : Nat → List UInt8
  | 0 => []
  | i + 1 => pre D s i ++ (if i = s ∧ 0 < i then [46] else []) ++ [asc (dg D i)]
theorem pre_low (D : List Int) {s i : Nat} (h : i ≤ s) : pre D s i = lowN D i := by
  induction i with
  | zero => rfl
  | succ i ih => rw [pre, ih (by omega), if_neg (by omega), List.append_nil, lowN_succ]
def ptB (s : Nat) : List UInt8 := if 0 < s then [46] else []
theorem pre_split (D : List Int) (s j : Nat) : pre D s (s + 1 + j) = lowN D s ++ ptB s ++ (lowN D (s + 1 + j)).drop s := by
  induction j with
  | zero =>
    rw [Nat.add_zero, pre, pre_low D (Nat.le_refl s), lowN_succ, List.drop_append_of_le_length (by rw [lowN_len]; omega), List.drop_of_length_le (by rw [lowN_len]; omega), List.nil_append]
    congr 2
    unfold ptB
    by_cases h : 0 < s
    · rw [if_pos ⟨rfl, h⟩, if_pos h]
    · rw [if_neg (fun x => h x.2), if_neg h]
  | succ j ih =>
    rw [← Nat.add_assoc, pre, ih, if_neg (by omega), List.append_nil, lowN_succ D (s + 1 + j), List.drop_append_of_le_length (by rw [lowN_len]; omega), List.append_assoc]
/-- How many digits the text has. -/
def txtN (D : List Int) (s : Nat) : Nat := max D.length (s + 1)
/-- The text without its sign. -/
def mag (D : List Int) (s : Nat) : List UInt8 := ((lowN D (txtN D s)).drop s).reverse ++ ptB s ++ (lowN D s).reverse
theorem mag_pre (D : List Int) (s : Nat) : (pre D s (txtN D s)).reverse = mag D s := by
  obtain ⟨j, hj⟩ : ∃ j, txtN D s = s + 1 + j := ⟨txtN D s - (s + 1), by unfold txtN; omega⟩
  unfold mag
  rw [hj, pre_split, List.reverse_append, List.reverse_append]
  unfold ptB
  split <;> simp
/-- The text of n / 10^s. -/
def txt (n : Int) (s : Nat) : List UInt8 := (if n < 0 then [45] else []) ++ mag (digs n.natAbs) s
theorem asc_nat (u : Nat) (h : u < 10) : asc (u : Int) = UInt8.ofNat (48 + u) := by unfold asc; rw [Int.toNat_natCast]
theorem dec_low (u : Nat) : Lib.decDigits u = (lowN (digs u) (max (digs u).length 1)).reverse := by
  induction u using Nat.strongRecOn with
  | _ u ih =>
    rw [Lib.decDigits]
    by_cases h : u < 10
    · rw [dif_pos h]
      by_cases h0 : u = 0
      · subst h0
        rw [digs_zero]
        rfl
      · rw [digs_pos h0, show u / 10 = 0 by omega, digs_zero, show u % 10 = u by omega]
        rfl
    · rw [dif_neg h, ih (u / 10) (by omega), digs_pos (show u ≠ 0 by omega)]
      have hl : 1 ≤ (digs (u / 10)).length := by
        rw [digs_pos (show u / 10 ≠ 0 by omega)]
        simp
      rw [Nat.max_eq_left hl, Nat.max_eq_left (by simp), List.length_cons, lowN_cons, List.reverse_cons]
      congr 1
theorem itoa_low {n : Int} (h : 0 ≤ n) : Lib.itoa n = (lowN (digs n.natAbs) (max (digs n.natAbs).length 1)).reverse := by
  unfold Lib.itoa
  rw [if_neg (by omega), dec_low]
  rw [show n.toNat = n.natAbs by omega]
theorem repeat_zero (c : Nat) : Lib.repeatL [48] c = List.replicate c 48 := by
  induction c with
  | zero => rfl
  | succ c ih => rw [Lib.repeatL, ih, List.replicate_succ]; rfl
/-- The digits with zeros ahead of them. -/
theorem pad_low (D : List Int) (s : Nat) : List.replicate (s + 1 - max D.length 1) 48 ++ (lowN D (max D.length 1)).reverse = (lowN D (txtN D s)).reverse := by
  have key : ∀ m c : Nat, D.length ≤ m → List.replicate c 48 ++ (lowN D m).reverse = (lowN D (m + c)).reverse := by
    intro m c hm
    obtain ⟨k, rfl⟩ : ∃ k, m = D.length + k := ⟨m - D.length, by omega⟩
    rw [Nat.add_assoc, lowN_zeros, lowN_zeros, List.reverse_append, List.reverse_append, List.reverse_replicate, List.reverse_replicate, ← List.append_assoc]
    congr 1
    rw [List.replicate_append_replicate, Nat.add_comm]
  rw [key _ _ (by omega)]
  congr 2
  unfold txtN
  omega
/-! ### Reading -/
/-- Digits as bytes, the first digit of the number first. -/
def ascL (L : List Int) : List UInt8 := (L.map asc).reverse
theorem ascL_cons (d : Int) (L : List Int) : ascL (d :: L) = ascL L ++ [asc d] := by simp [ascL]
theorem asc_cases {d : Int} (h0 : 0 ≤ d) (h9 : d ≤ 9) : d = 0 ∨ d = 1 ∨ d = 2 ∨ d = 3 ∨ d = 4 ∨ d = 5 ∨ d = 6 ∨ d = 7 ∨ d = 8 ∨ d = 9 := by omega
theorem asc_toNat {d : Int} (h0 : 0 ≤ d) (h9 : d ≤ 9) : (asc d).toNat = 48 + d.toNat := by
  rcases asc_cases h0 h9 with rfl | rfl | rfl | rfl | rfl | rfl | rfl | rfl | rfl | rfl <;> rfl
/-- The digits 0 .. k - 1. -/
def lowL (D : List Int) (k : Nat) : List Int := (List.range k).map (dg D)
theorem lowN_map (D : List Int) (k : Nat) : lowN D k = (lowL D k).map asc := by simp [lowN, lowL]
theorem lowL_len (D : List Int) (k : Nat) : (lowL D k).length = k := by simp [lowL]
theorem lowL_dig {D : List Int} (h : Dig D) (k : Nat) : Dig (lowL D k) := fun d hd => by
  obtain ⟨i, _, rfl⟩ := List.mem_map.1 hd
  exact dg_dig h i
theorem lowL_val (D : List Int) (k : Nat) : valD (lowL D k) = valD (D.take k) := by
  induction k with
  | zero => simp [lowL, valD]
  | succ k ih =>
    rw [valD_take, ← ih]
    have : lowL D (k + 1) = lowL D k ++ [dg D k] := by simp [lowL, List.range_succ]
    rw [this, valD_app, lowL_len]
    simp [valD]
theorem lowL_take (D : List Int) {s k : Nat} (h : s ≤ k) : (lowL D k).take s = lowL D s := by
  unfold lowL
  rw [← List.map_take, List.take_range, Nat.min_eq_left h]
/-- The text without its sign, by its digits. -/
theorem mag_eq (D : List Int) (s : Nat) : mag D s = ascL ((lowL D (txtN D s)).drop s) ++ ptB s ++ ascL (lowL D s) := by
  unfold mag ascL
  rw [lowN_map, lowN_map, List.map_drop]
/-- The fold of the reference's Parse. -/
def rstep (st : Bool × Int × Int) (c : UInt8) : Bool × Int × Int :=
  if 48 ≤ c.toNat ∧ c.toNat ≤ 57 then (st.1 || (c.toNat == 46), 10 * st.2.1 + (c.toNat - 48 : Nat), if st.1 || (c.toNat == 46) then st.2.2 + 1 else st.2.2) else (st.1 || (c.toNat == 46), st.2.1, st.2.2)
/-- What the reference's Parse reads. -/
def rd (t : List UInt8) : Int × Int :=
  ((if t.head? = some 45 then -(t.foldl rstep (false, 0, 0)).2.1 else (t.foldl rstep (false, 0, 0)).2.1), (t.foldl rstep (false, 0, 0)).2.2)
theorem rstep_digit (p : Bool) (a b : Int) {d : Int} (h0 : 0 ≤ d) (h9 : d ≤ 9) : rstep (p, a, b) (asc d) = (p, 10 * a + d, if p then b + 1 else b) := by
  unfold rstep
  rw [asc_toNat h0 h9, if_pos (by omega)]
  have h1 : (48 + d.toNat == 46) = false := by rw [Bool.eq_false_iff]; intro h; have := eq_of_beq h; omega
  rw [h1, Bool.or_false]
  have h2 : ((48 + d.toNat - 48 : Nat) : Int) = d := by omega
  rw [h2]
theorem fold_digits {L : List Int} (hd : Dig L) (p : Bool) (a b : Int) : (ascL L).foldl rstep (p, a, b) = (p, a * p10 L.length + valD L, if p then b + L.length else b) := by
  induction L with
  | nil => simp [ascL, valD, p10_zero]
  | cons d L ih =>
    obtain ⟨h0, h9, h'⟩ := hd.cons
    rw [ascL_cons, List.foldl_append, ih h']
    simp only [List.foldl_cons, List.foldl_nil]
    rw [rstep_digit _ _ _ h0 h9]
    refine Prod.ext rfl (Prod.ext ?_ ?_)
    · simp only [List.length_cons, valD, p10_succ]
      rw [Int.mul_add, ← Int.mul_assoc a, Int.mul_comm a 10, ← Int.mul_assoc]
      omega
    · cases p
      · rfl
      · simp only [if_true, List.length_cons]
        omega
theorem ascL_ne {L : List Int} (h : L ≠ []) : ascL L ≠ [] := by
  unfold ascL
  intro h'
  rw [List.reverse_eq_nil_iff, List.map_eq_nil_iff] at h'
  exact h h'
theorem ascL_head {L : List Int} (hd : Dig L) (h : L ≠ []) : ∃ c r, ascL L = c :: r ∧ 48 ≤ c.toNat := by
  cases hc : ascL L with
  | nil => exact absurd hc (ascL_ne h)
  | cons c r =>
    refine ⟨c, r, rfl, ?_⟩
    have : c ∈ ascL L := by rw [hc]; simp
    unfold ascL at this
    rw [List.mem_reverse] at this
    obtain ⟨d, hm, rfl⟩ := List.mem_map.1 this
    rw [asc_toNat (hd d hm).1 (hd d hm).2]
    omega
theorem drop_ne (D : List Int) (s : Nat) : (lowL D (txtN D s)).drop s ≠ [] := by
  intro h
  have := List.drop_eq_nil_iff.1 h
  rw [lowL_len] at this
  unfold txtN at this
  omega
theorem valD_txt (D : List Int) (s : Nat) : valD ((lowL D (txtN D s)).drop s) * p10 s + valD (lowL D s) = valD D := by
  have h1 := valD_split (lowL D (txtN D s)) s
  rw [lowL_take D (by unfold txtN; omega), lowL_val D (txtN D s), List.take_of_length_le (by unfold txtN; omega)] at h1
  rw [h1, Int.mul_comm]
  omega
/-- The text's own number is read again. -/
theorem rd_txt (n : Int) (s : Nat) : rd (txt n s) = (n, (s : Int)) := by
  have hD := dig_digs n.natAbs
  have hv := valD_txt (digs n.natAbs) s
  rw [valD_digs] at hv
  have hH : Dig ((lowL (digs n.natAbs) (txtN (digs n.natAbs) s)).drop s) := (lowL_dig hD _).drop s
  have hL := lowL_dig hD s
  have hne := drop_ne (digs n.natAbs) s
  have hlen := lowL_len (digs n.natAbs) s
  obtain ⟨c, r, hcr, hc48⟩ := ascL_head hH hne
  have hfold : ∀ a, (mag (digs n.natAbs) s).foldl rstep (false, 0, a) = (decide (0 < s), ((n.natAbs : Nat) : Int), a + s) := by
    intro a
    rw [mag_eq, List.foldl_append, List.foldl_append, fold_digits hH]
    rw [Int.zero_mul, Int.zero_add]
    unfold ptB
    by_cases h : 0 < s
    · rw [if_pos h]
      simp only [List.foldl_cons, List.foldl_nil]
      rw [show rstep (false, valD ((lowL (digs n.natAbs) (txtN (digs n.natAbs) s)).drop s), if false = true then a + (((lowL (digs n.natAbs) (txtN (digs n.natAbs) s)).drop s).length : Int) else a) 46 = (true, valD ((lowL (digs n.natAbs) (txtN (digs n.natAbs) s)).drop s), a) from rfl]
      rw [fold_digits hL, hlen, hv]
      simp [h]
    · have hs0 : s = 0 := by omega
      subst hs0
      rw [if_neg h]
      simp only [List.foldl_nil]
      rw [show lowL (digs n.natAbs) 0 = [] from rfl] at hv ⊢
      rw [p10_zero, Int.mul_one] at hv
      simp only [valD, Int.add_zero] at hv
      rw [hv]
      simp [ascL]
  unfold rd txt
  by_cases hn : n < 0
  · rw [if_pos hn]
    simp only [List.singleton_append, List.head?_cons, List.foldl_cons]
    rw [show rstep (false, 0, 0) 45 = (false, 0, 0) from rfl, hfold]
    simp only [if_true]
    refine Prod.ext ?_ ?_
    · show -((n.natAbs : Nat) : Int) = n
      omega
    · show (0 : Int) + s = s
      omega
  · rw [if_neg hn, List.nil_append, hfold]
    have hh : (mag (digs n.natAbs) s).head? ≠ some 45 := by
      rw [mag_eq, hcr]
      simp only [List.cons_append, List.head?_cons]
      intro h
      injection h with h
      rw [h] at hc48
      exact absurd hc48 (by decide)
    rw [if_neg hh]
    refine Prod.ext ?_ ?_
    · show ((n.natAbs : Nat) : Int) = n
      omega
    · show (0 : Int) + s = s
      omega
end Go.Proofs.YtbafnlccpbonmaaGreatDoor

namespace Go.Proofs.YtbafnlccpbonmaaGreatDoor
set_option linter.unusedVariables false
set_option linter.unnecessarySimpa false
set_option linter.unusedSimpArgs false

theorem parse_app (l r : List UInt8) (acc : Nat) : Lib.parseUint10 acc (l ++ r) = match Lib.parseUint10 acc l with | .ok u => Lib.parseUint10 u r | .syntax => .syntax | .range => .range := by
  induction l generalizing acc with
  | nil => simp [Lib.parseUint10]
  | cons c l ih =>
    simp only [List.cons_append, Lib.parseUint10]
    split
    · split
      · rfl
      · split
        · rfl
        · exact ih _
    · rfl
theorem parse_digits {L : List Int} (hd : Dig L) (acc : Nat) (hb : (acc : Int) * p10 L.length + valD L < 1000000000000000000) : Lib.parseUint10 acc (ascL L) = .ok ((acc : Int) * p10 L.length + valD L).toNat := by
  induction L with
  | nil => simp [ascL, valD, p10_zero, Lib.parseUint10]
  | cons d L ih =>
    obtain ⟨h0, h9, h'⟩ := hd.cons
    have hV := valD_nonneg h'
    have hP := p10_pos L.length
    have hA : 0 ≤ (acc : Int) * p10 L.length := Int.mul_nonneg (by omega) (by omega)
    have e : (acc : Int) * p10 (d :: L).length + valD (d :: L) = 10 * ((acc : Int) * p10 L.length + valD L) + d := by
      simp only [List.length_cons, valD, p10_succ]
      rw [← Int.mul_assoc (acc : Int), Int.mul_comm (acc : Int) 10, Int.mul_assoc]
      omega
    rw [e] at hb ⊢
    rw [ascL_cons, parse_app, ih h' (by omega)]
    have hX : 0 ≤ (acc : Int) * p10 L.length + valD L := by omega
    generalize (acc : Int) * p10 L.length + valD L = X at *
    simp only [Lib.parseUint10]
    rw [asc_toNat h0 h9, if_pos (by omega), if_neg (by omega), if_neg (by omega)]
    congr 1
    omega
/-- Atoi reads a numeral. -/
theorem atoi_num {L : List Int} (hd : Dig L) (hne : L ≠ []) {n : Int} (hv : valD L = (n.natAbs : Int)) (hb : n.natAbs < 1000000000000000000) : Lib.atoiAll ((if n < 0 then [45] else []) ++ ascL L) = .ok n := by
  obtain ⟨c, r, hcr, hc⟩ := ascL_head hd hne
  have hp : Lib.parseMag (ascL L) = .ok n.natAbs := by
    unfold Lib.parseMag
    rw [if_neg (ascL_ne hne)]
    have := parse_digits hd 0 (by simp; omega)
    rw [this]
    congr 1
    simp
    omega
  by_cases hn : n < 0
  · rw [if_pos hn]
    simp only [List.singleton_append, Lib.atoiAll]
    rw [if_pos (.inr rfl), hp]
    simp only []
    rw [if_neg (by intro h; exact h.1 rfl), if_neg (by omega), if_pos (show UInt8.toNat 45 = 45 from rfl)]
    congr 1
    omega
  · rw [if_neg hn, List.nil_append, hcr]
    simp only [Lib.atoiAll]
    rw [if_neg (by omega), ← hcr, hp]
    simp only []
    rw [if_neg (by omega), if_neg (by omega), if_neg (by omega)]
    congr 1
    omega
/-! ### strings.Cut at the point -/
theorem prefix_one (c b : UInt8) (l : List UInt8) : List.isPrefixOf [c] (b :: l) = (c == b) := by simp [List.isPrefixOf]
theorem index_app {l r : List UInt8} {c : UInt8} (h : ∀ b ∈ l, c ≠ b) : Lib.index (l ++ c :: r) [c] = l.length := by
  induction l with
  | nil => simp [Lib.index, List.isPrefixOf]
  | cons b l ih =>
    have hb : (c == b) = false := by simp; exact h b (by simp)
    simp only [List.cons_append, Lib.index]
    rw [prefix_one, hb, ih fun x hx => h x (by simp [hx])]
    have : ((l.length : Int) == -1) = false := by rw [Bool.eq_false_iff]; intro h; have := eq_of_beq h; omega
    rw [this]
    simp
theorem index_no {l : List UInt8} {c : UInt8} (h : ∀ b ∈ l, c ≠ b) : Lib.index l [c] = -1 := by
  induction l with
  | nil => simp [Lib.index]
  | cons b l ih =>
    have hb : (c == b) = false := by simp; exact h b (by simp)
    simp only [Lib.index]
    rw [prefix_one, hb, ih fun x hx => h x (by simp [hx])]
    simp
theorem cut_app {l r : List UInt8} (h : ∀ b ∈ l, (46 : UInt8) ≠ b) : Lib.cut (l ++ 46 :: r) [46] = (l, r, true) := by
  unfold Lib.cut
  rw [index_app h, if_pos (by omega)]
  simp
theorem cut_no {l : List UInt8} (h : ∀ b ∈ l, (46 : UInt8) ≠ b) : Lib.cut l [46] = (l, [], false) := by
  unfold Lib.cut
  rw [index_no h, if_neg (by omega)]
theorem asc_not_point {L : List Int} (hd : Dig L) (n : Int) : ∀ b ∈ (if n < 0 then [45] else []) ++ ascL L, (46 : UInt8) ≠ b := by
  intro b hb
  rcases List.mem_append.1 hb with hb | hb
  · split at hb
    · simp at hb; rw [hb]; decide
    · cases hb
  · unfold ascL at hb
    rw [List.mem_reverse] at hb
    obtain ⟨d, hm, rfl⟩ := List.mem_map.1 hb
    intro h
    have := asc_toNat (hd d hm).1 (hd d hm).2
    rw [← h] at this
    have e : (46 : UInt8).toNat = 46 := rfl
    omega
/-- What stands ahead of the point, and behind it. -/
theorem cut_txt (n : Int) (s : Nat) : (Lib.cut (txt n s) [46]).1 ++ (Lib.cut (txt n s) [46]).2.1 = (if n < 0 then [45] else []) ++ ascL (lowL (digs n.natAbs) (txtN (digs n.natAbs) s)) ∧ (Lib.cut (txt n s) [46]).2.1.length = s ∧ ((Lib.cut (txt n s) [46]).2.2 = true → 0 < s) := by
  have hD := dig_digs n.natAbs
  have hH : Dig ((lowL (digs n.natAbs) (txtN (digs n.natAbs) s)).drop s) := (lowL_dig hD _).drop s
  have hj : ascL ((lowL (digs n.natAbs) (txtN (digs n.natAbs) s)).drop s) ++ ascL (lowL (digs n.natAbs) s) = ascL (lowL (digs n.natAbs) (txtN (digs n.natAbs) s)) := by
    unfold ascL
    rw [← List.reverse_append, ← List.map_append, ← lowL_take (digs n.natAbs) (show s ≤ txtN (digs n.natAbs) s by unfold txtN; omega), List.take_append_drop]
  by_cases h : 0 < s
  · have e : txt n s = ((if n < 0 then [45] else []) ++ ascL ((lowL (digs n.natAbs) (txtN (digs n.natAbs) s)).drop s)) ++ 46 :: ascL (lowL (digs n.natAbs) s) := by
      unfold txt
      rw [mag_eq]
      unfold ptB
      rw [if_pos h]
      simp
    rw [e, cut_app (asc_not_point hH n)]
    refine ⟨?_, ?_, fun _ => h⟩
    · show ((if n < 0 then [45] else []) ++ ascL ((lowL (digs n.natAbs) (txtN (digs n.natAbs) s)).drop s)) ++ ascL (lowL (digs n.natAbs) s) = _
      rw [List.append_assoc, hj]
    · show (ascL (lowL (digs n.natAbs) s)).length = s
      simp [ascL, lowL_len]
  · have hs0 : s = 0 := by omega
    subst hs0
    have e : txt n 0 = (if n < 0 then [45] else []) ++ ascL ((lowL (digs n.natAbs) (txtN (digs n.natAbs) 0)).drop 0) := by
      unfold txt
      rw [mag_eq]
      simp [ptB, lowL, ascL]
    rw [e, cut_no (asc_not_point hH n)]
    exact ⟨by simp, rfl, fun h => (by cases h)⟩
theorem txt_atoi (n : Int) (s : Nat) (hb : n.natAbs < 1000000000000000000) : Lib.atoiAll ((Lib.cut (txt n s) [46]).1 ++ (Lib.cut (txt n s) [46]).2.1) = .ok n := by
  rw [(cut_txt n s).1]
  refine atoi_num (lowL_dig (dig_digs _) _) ?_ ?_ hb
  · intro h
    have := congrArg List.length h
    rw [lowL_len] at this
    unfold txtN at this
    rw [List.length_nil] at this
    omega
  · rw [lowL_val, List.take_of_length_le (by unfold txtN; omega), valD_digs]
theorem txt_len {n : Int} {s : Nat} (h0 : -999999999999999 ≤ n) (h1 : n ≤ 999999999999999) (hs : s ≤ 12) : 1 ≤ (txt n s).length ∧ (txt n s).length ≤ 17 := by
  have hl : (digs n.natAbs).length ≤ 15 := len_digs_le (by omega)
  have e : (txt n s).length = (if n < 0 then 1 else 0) + (txtN (digs n.natAbs) s - s) + (if 0 < s then 1 else 0) + s := by
    unfold txt
    rw [mag_eq]
    simp only [List.length_append, ascL, List.length_reverse, List.length_map, List.length_drop, lowL_len]
    unfold ptB
    (repeat' split) <;> simp <;> omega
  rw [e]
  unfold txtN
  (repeat' split) <;> omega
end Go.Proofs.YtbafnlccpbonmaaGreatDoor
