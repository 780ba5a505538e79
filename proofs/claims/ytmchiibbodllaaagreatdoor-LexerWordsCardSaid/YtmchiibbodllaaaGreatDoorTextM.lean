/- Plain facts: the text of a number, and how it is read. Nothing here walks a program. -/
import Derived.Test.YtmchiibbodllaaaGreatDoorDMath
import Derived.Lib.ItoaNum
import Derived.Lib.Repeat
import Derived.Lib.AtoiAll
import Derived.Lib.IndexMore
namespace Go.Proofs.YtmchiibbodllaaaGreatDoor
set_option linter.unusedVariables false
set_option linter.unnecessarySimpa false
set_option linter.unusedSimpArgs false

/-- A digit's byte. -/
def asc (d : Int) : UInt8 := UInt8.ofNat (48 + d.toNat)
/-- The bytes of the digits 0 .. k - 1, the last digit of the number first. -/
def lowN (D : List Int) (k : Nat) : List UInt8 := (List.range k).map fun i => asc (dg D i)
theorem lowN_len (D : List Int) (k : Nat) : (lowN D k).length = k := by simp [lowN]
theorem lowN_succ (D : List Int) (k : Nat) : lowN D (k + 1) = lowN D k ++ [asc (dg D k)] := by simp [lowN, List.range_succ]
theorem lowN_cons (d : Int) (D : List Int) (k : Nat) : lowN (d :: D) (k + 1) = asc d :: lowN D k := by
  simp only [lowN, List.range_succ_eq_map, List.map_cons, List.map_map]
  congr 1
theorem lowN_nil (k : Nat) : lowN [] k = List.replicate k 48 := by
  induction k with
  | zero => rfl
  | succ k ih => rw [lowN_succ, ih, List.replicate_succ']; rfl
theorem lowN_zeros (D : List Int) (c : Nat) : lowN D (D.length + c) = lowN D D.length ++ List.replicate c 48 := by
  induction c with
  | zero => simp
  | succ c ih =>
    rw [← Nat.add_assoc, lowN_succ, ih, List.replicate_succ', ← List.append_assoc]
    congr 1
    unfold dg
    rw [List.getD_eq_getElem?_getD, List.getElem?_eq_none (by omega)]
    rfl
/-- The bytes of the text without its sign, the last one first: a point ahead of digit s. -/
def pre (D : List Int) (s : Nat) : Nat → List UInt8
  | 0 => []
  | i + 1 => pre D s i ++ (if i = s ∧ 0 < i then [46] else []) ++ [asc (dg D i)]
theorem pre_low (D : List Int) {s i : Nat} (h : i ≤ s) : pre D s i = lowN D i := by
  induction i with
  | zero => rfl
  | succ i ih => rw [pre, ih (by omega), if_neg (by omega), List.append_nil, lowN_succ]
def ptB (s : Nat) : List UInt8 := if 0 < s then [46] else []
theorem pre_split (D : List Int) (s j : Nat) : pre D s (s + 1 + j) = lowN D s ++ ptB s ++ (lowN D (s + 1 + j)).drop s := by
  induction j with
  | zero =>
    rw [Nat.add_zero, pre, pre_low D (Nat.le_refl s), lowN_succ, List.drop_append_of_le_length (by rw [lowN_len]; omega), List.drop_of_length_le (by rw [lowN_len]; omega), List.nil_append]
    congr 2
    unfold ptB
    by_cases h : 0 < s
    · rw [if_pos ⟨rfl, h⟩, if_pos h]
    · rw [if_neg (fun x => h x.2), if_neg h]
  | succ j ih =>
    rw [← Nat.add_assoc, pre, ih, if_neg (by omega), List.append_nil, lowN_succ D (s + 1 + j), List.drop_append_of_le_length (by rw [lowN_len]; omega), List.append_assoc]
/-- How many digits the text has. -/
def txtN (D : List Int) (s : Nat) : Nat := max D.length (s + 1)
/-- The text without its sign. -/
def mag (D : List Int) (s : Nat) : List UInt8 := ((lowN D (txtN D s)).drop s).reverse ++ ptB s ++ (lowN D s).reverse
theorem mag_pre (D : List Int) (s : Nat) : (pre D s (txtN D s)).reverse = mag D s := by
  obtain ⟨j, hj⟩ : ∃ j, txtN D s = s + 1 + j := ⟨txtN D s - (s + 1), by unfold txtN; omega⟩
  unfold mag
  rw [hj, pre_split, List.reverse_append, List.reverse_append]
  unfold ptB
  split <;> simp
/-- The text of n / 10^s. -/
def txt (n : Int) (s : Nat) : List UInt8 := (if n < 0 then [45] else []) ++ mag (digs n.natAbs) s
theorem asc_nat (u : Nat) (h : u < 10) : asc (u : Int) = UInt8.ofNat (48 + u) := by unfold asc; rw [Int.toNat_natCast]
theorem dec_low (u : Nat) : Lib.decDigits u = (lowN (digs u) (max (digs u).length 1)).reverse := by
  induction u using Nat.strongRecOn with
  | _ u ih =>
    rw [Lib.decDigits]
    by_cases h : u < 10
    · rw [dif_pos h]
      by_cases h0 : u = 0
      · subst h0
        rw [digs_zero]
        rfl
      · rw [digs_pos h0, show u / 10 = 0 by omega, digs_zero, show u % 10 = u by omega]
        rfl
    · rw [dif_neg h, ih (u / 10) (by omega), digs_pos (show u ≠ 0 by omega)]
      have hl : 1 ≤ (digs (u / 10)).length := by
        rw [digs_pos (show u / 10 ≠ 0 by omega)]
        simp
      rw [Nat.max_eq_left hl, Nat.max_eq_left (by simp), List.length_cons, lowN_cons, List.reverse_cons]
      congr 1
theorem itoa_low {n : Int} (h : 0 ≤ n) : Lib.itoa n = (lowN (digs n.natAbs) (max (digs n.natAbs).length 1)).reverse := by
  unfold Lib.itoa
  rw [if_neg (by omega), dec_low]
  rw [show n.toNat = n.natAbs by omega]
theorem repeat_zero (c : Nat) : Lib.repeatL [48] c = List.replicate c 48 := by
  induction c with
  | zero => rfl
  | succ c ih => rw [Lib.repeatL, ih, List.replicate_succ]; rfl
/-- The digits with zeros ahead of them. -/
theorem pad_low (D : List Int) (s : Nat) : List.replicate (s + 1 - max D.length 1) 48 ++ (lowN D (max D.length 1)).reverse = (lowN D (txtN D s)).reverse := by
  have key : ∀ m c : Nat, D.length ≤ m → List.replicate c 48 ++ (lowN D m).reverse = (lowN D (m + c)).reverse := by
    intro m c hm
    obtain ⟨k, rfl⟩ : ∃ k, m = D.length + k := ⟨m - D.length, by omega⟩
    rw [Nat.add_assoc, lowN_zeros, lowN_zeros, List.reverse_append, List.reverse_append, List.reverse_replicate, List.reverse_replicate, ← List.append_assoc]
    congr 1
    rw [List.replicate_append_replicate, Nat.add_comm]
  rw [key _ _ (by omega)]
  congr 2
  unfold txtN
  omega
/-! ### Reading -/
/-- Digits as bytes, the first digit of the number first. -/
def ascL (L : List Int) : List UInt8 := (L.map asc).reverse
theorem ascL_cons (d : Int) (L : List Int) : ascL (d :: L) = ascL L ++ [asc d] := by simp [ascL]
theorem asc_cases {d : Int} (h0 : 0 ≤ d) (h9 : d ≤ 9) : d = 0 ∨ d = 1 ∨ d = 2 ∨ d = 3 ∨ d = 4 ∨ d = 5 ∨ d = 6 ∨ d = 7 ∨ d = 8 ∨ d = 9 := by omega
theorem asc_toNat {d : Int} (h0 : 0 ≤ d) (h9 : d ≤ 9) : (asc d).toNat = 48 + d.toNat := by
  rcases asc_cases h0 h9 with rfl | rfl | rfl | rfl | rfl | rfl | rfl | rfl | rfl | rfl <;> rfl
/-- The digits 0 .. k - 1. -/
def lowL (D : List Int) (k : Nat) : List Int := (List.range k).map (dg D)
theorem lowN_map (D : List Int) (k : Nat) : lowN D k = (lowL D k).map asc := by simp [lowN, lowL]
theorem lowL_len (D : List Int) (k : Nat) : (lowL D k).length = k := by simp [lowL]
theorem lowL_dig {D : List Int} (h : Dig D) (k : Nat) : Dig (lowL D k) := fun d hd => by
  obtain ⟨i, _, rfl⟩ := List.mem_map.1 hd
  exact dg_dig h i
theorem lowL_val (D : List Int) (k : Nat) : valD (lowL D k) = valD (D.take k) := by
  induction k with
  | zero => simp [lowL, valD]
  | succ k ih =>
    rw [valD_take, ← ih]
    have : lowL D (k + 1) = lowL D k ++ [dg D k] := by simp [lowL, List.range_succ]
    rw [this, valD_app, lowL_len]
    simp [valD]
theorem lowL_take (D : List Int) {s k : Nat} (h : s ≤ k) : (lowL D k).take s = lowL D s := by
  unfold lowL
  rw [← List.map_take, List.take_range, Nat.min_eq_left h]
/-- The text without its sign, by its digits. -/
theorem mag_eq (D : List Int) (s : Nat) : mag D s = ascL ((lowL D (txtN D s)).drop s) ++ ptB s ++ ascL (lowL D s) := by
  unfold mag ascL
  rw [lowN_map, lowN_map, List.map_drop]
/-- The fold of the reference's Parse. -/
def rstep (st : Bool × Int × Int) (c : UInt8) : Bool × Int × Int :=
  if 48 ≤ c.toNat ∧ c.toNat ≤ 57 then (st.1 || (c.toNat == 46), 10 * st.2.1 + (c.toNat - 48 : Nat), if st.1 || (c.toNat == 46) then st.2.2 + 1 else st.2.2) else (st.1 || (c.toNat == 46), st.2.1, st.2.2)
/-- What the reference's Parse reads. -/
def rd (t : List UInt8) : Int × Int :=
  ((if t.head? = some 45 then -(t.foldl rstep (false, 0, 0)).2.1 else (t.foldl rstep (false, 0, 0)).2.1), (t.foldl rstep (false, 0, 0)).2.2)
theorem rstep_digit (p : Bool) (a b : Int) {d : Int} (h0 : 0 ≤ d) (h9 : d ≤ 9) : rstep (p, a, b) (asc d) = (p, 10 * a + d, if p then b + 1 else b) := by
  unfold rstep
  rw [asc_toNat h0 h9, if_pos (by omega)]
  have h1 : (48 + d.toNat == 46) = false := by rw [Bool.eq_false_iff]; intro h; have := eq_of_beq h; omega
  rw [h1, Bool.or_false]
  have h2 : ((48 + d.toNat - 48 : Nat) : Int) = d := by omega
  rw [h2]
theorem fold_digits {L : List Int} (hd : Dig L) (p : Bool) (a b : Int) : (ascL L).foldl rstep (p, a, b) = (p, a * p10 L.length + valD L, if p then b + L.length else b) := by
  induction L with
  | nil => simp [ascL, valD, p10_zero]
  | cons d L ih =>
    obtain ⟨h0, h9, h'⟩ := hd.cons
    rw [ascL_cons, List.foldl_append, ih h']
    simp only [List.foldl_cons, List.foldl_nil]
    rw [rstep_digit _ _ _ h0 h9]
    refine Prod.ext rfl (Prod.ext ?_ ?_)
    · simp only [List.length_cons, valD, p10_succ]
      rw [Int.mul_add, ← Int.mul_assoc a, Int.mul_comm a 10, ← Int.mul_assoc]
      omega
    · cases p
      · rfl
      · simp only [if_true, List.length_cons]
        omega
theorem ascL_ne {L : List Int} (h : L ≠ []) : ascL L ≠ [] := by
  unfold ascL
  intro h'
  rw [List.reverse_eq_nil_iff, List.map_eq_nil_iff] at h'
  exact h h'
theorem ascL_head {L : List Int} (hd : Dig L) (h : L ≠ []) : ∃ c r, ascL L = c :: r ∧ 48 ≤ c.toNat := by
  cases hc : ascL L with
  | nil => exact absurd hc (ascL_ne h)
  | cons c r =>
    refine ⟨c, r, rfl, ?_⟩
    have : c ∈ ascL L := by rw [hc]; simp
    unfold ascL at this
    rw [List.mem_reverse] at this
    obtain ⟨d, hm, rfl⟩ := List.mem_map.1 this
    rw [asc_toNat (hd d hm).1 (hd d hm).2]
    omega
theorem drop_ne (D : List Int) (s : Nat) : (lowL D (txtN D s)).drop s ≠ [] := by
  intro h
  have := List.drop_eq_nil_iff.1 h
  rw [lowL_len] at this
  unfold txtN at this
  omega
theorem valD_txt (D : List Int) (s : Nat) : valD ((lowL D (txtN D s)).drop s) * p10 s + valD (lowL D s) = valD D := by
  have h1 := valD_split (lowL D (txtN D s)) s
  rw [lowL_take D (by unfold txtN; omega), lowL_val D (txtN D s), List.take_of_length_le (by unfold txtN; omega)] at h1
  rw [h1, Int.mul_comm]
  omega
/-- The text's own number is read again. -/
theorem rd_txt (n : Int) (s : Nat) : rd (txt n s) = (n, (s : Int)) := by
  have hD := dig_digs n.natAbs
  have hv := valD_txt (digs n.natAbs) s
  rw [valD_digs] at hv
  have hH : Dig ((lowL (digs n.natAbs) (txtN (digs n.natAbs) s)).drop s) := (lowL_dig hD _).drop s
  have hL := lowL_dig hD s
  have hne := drop_ne (digs n.natAbs) s
  have hlen := lowL_len (digs n.natAbs) s
  obtain ⟨c, r, hcr, hc48⟩ := ascL_head hH hne
  have hfold : ∀ a, (mag (digs n.natAbs) s).foldl rstep (false, 0, a) = (decide (0 < s), ((n.natAbs : Nat) : Int), a + s) := by
    intro a
    rw [mag_eq, List.foldl_append, List.foldl_append, fold_digits hH]
    rw [Int.zero_mul, Int.zero_add]
    unfold ptB
    by_cases h : 0 < s
    · rw [if_pos h]
      simp only [List.foldl_cons, List.foldl_nil]
      rw [show rstep (false, valD ((lowL (digs n.natAbs) (txtN (digs n.natAbs) s)).drop s), if false = true then a + (((lowL (digs n.natAbs) (txtN (digs n.natAbs) s)).drop s).length : Int) else a) 46 = (true, valD ((lowL (digs n.natAbs) (txtN (digs n.natAbs) s)).drop s), a) from rfl]
      rw [fold_digits hL, hlen, hv]
      simp [h]
    · have hs0 : s = 0 := by omega
      subst hs0
      rw [if_neg h]
      simp only [List.foldl_nil]
      rw [show lowL (digs n.natAbs) 0 = [] from rfl] at hv ⊢
      rw [p10_zero, Int.mul_one] at hv
      simp only [valD, Int.add_zero] at hv
      rw [hv]
      simp [ascL]
  unfold rd txt
  by_cases hn : n < 0
  · rw [if_pos hn]
    simp only [List.singleton_append, List.head?_cons, List.foldl_cons]
    rw [show rstep (false, 0, 0) 45 = (false, 0, 0) from rfl, hfold]
    simp only [if_true]
    refine Prod.ext ?_ ?_
    · show -((n.natAbs : Nat) : Int) = n
      omega
    · show (0 : Int) + s = s
      omega
  · rw [if_neg hn, List.nil_append, hfold]
    have hh : (mag (digs n.natAbs) s).head? ≠ some 45 := by
      rw [mag_eq, hcr]
      simp only [List.cons_append, List.head?_cons]
      intro h
      injection h with h
      rw [h] at hc48
      exact absurd hc48 (by decide)
    rw [if_neg hh]
    refine Prod.ext ?_ ?_
    · show ((n.natAbs : Nat) : Int) = n
      omega
    · show (0 : Int) + s = s
      omega
end Go.Proofs.YtmchiibbodllaaaGreatDoor
