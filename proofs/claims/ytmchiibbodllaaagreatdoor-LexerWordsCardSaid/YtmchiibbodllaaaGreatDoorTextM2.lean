/- Plain facts: decimal.Parse's way of reading a text: strings.Cut and strconv.Atoi. Nothing here walks a program. -/
import Derived.Test.YtmchiibbodllaaaGreatDoorTextM
namespace Go.Proofs.YtmchiibbodllaaaGreatDoor
set_option linter.unusedVariables false
set_option linter.unnecessarySimpa false
set_option linter.unusedSimpArgs false

theorem parse_app (l r : List UInt8) (acc : Nat) : Lib.parseUint10 acc (l ++ r) = match Lib.parseUint10 acc l with | .ok u => Lib.parseUint10 u r | .syntax => .syntax | .range => .range := by
  induction l generalizing acc with
  | nil => simp [Lib.parseUint10]
  | cons c l ih =>
    simp only [List.cons_append, Lib.parseUint10]
    split
    · split
      · rfl
      · split
        · rfl
        · exact ih _
    · rfl
theorem parse_digits {L : List Int} (hd : Dig L) (acc : Nat) (hb : (acc : Int) * p10 L.length + valD L < 1000000000000000000) : Lib.parseUint10 acc (ascL L) = .ok ((acc : Int) * p10 L.length + valD L).toNat := by
  induction L with
  | nil => simp [ascL, valD, p10_zero, Lib.parseUint10]
  | cons d L ih =>
    obtain ⟨h0, h9, h'⟩ := hd.cons
    have hV := valD_nonneg h'
    have hP := p10_pos L.length
    have hA : 0 ≤ (acc : Int) * p10 L.length := Int.mul_nonneg (by omega) (by omega)
    have e : (acc : Int) * p10 (d :: L).length + valD (d :: L) = 10 * ((acc : Int) * p10 L.length + valD L) + d := by
      simp only [List.length_cons, valD, p10_succ]
      rw [← Int.mul_assoc (acc : Int), Int.mul_comm (acc : Int) 10, Int.mul_assoc]
      omega
    rw [e] at hb ⊢
    rw [ascL_cons, parse_app, ih h' (by omega)]
    have hX : 0 ≤ (acc : Int) * p10 L.length + valD L := by omega
    generalize (acc : Int) * p10 L.length + valD L = X at *
    simp only [Lib.parseUint10]
    rw [asc_toNat h0 h9, if_pos (by omega), if_neg (by omega), if_neg (by omega)]
    congr 1
    omega
/-- Atoi reads a numeral. -/
theorem atoi_num {L : List Int} (hd : Dig L) (hne : L ≠ []) {n : Int} (hv : valD L = (n.natAbs : Int)) (hb : n.natAbs < 1000000000000000000) : Lib.atoiAll ((if n < 0 then [45] else []) ++ ascL L) = .ok n := by
  obtain ⟨c, r, hcr, hc⟩ := ascL_head hd hne
  have hp : Lib.parseMag (ascL L) = .ok n.natAbs := by
    unfold Lib.parseMag
    rw [if_neg (ascL_ne hne)]
    have := parse_digits hd 0 (by simp; omega)
    rw [this]
    congr 1
    simp
    omega
  by_cases hn : n < 0
  · rw [if_pos hn]
    simp only [List.singleton_append, Lib.atoiAll]
    rw [if_pos (.inr rfl), hp]
    simp only []
    rw [if_neg (by intro h; exact h.1 rfl), if_neg (by omega), if_pos (show UInt8.toNat 45 = 45 from rfl)]
    congr 1
    omega
  · rw [if_neg hn, List.nil_append, hcr]
    simp only [Lib.atoiAll]
    rw [if_neg (by omega), ← hcr, hp]
    simp only []
    rw [if_neg (by omega), if_neg (by omega), if_neg (by omega)]
    congr 1
    omega
/-! ### strings.Cut at the point -/
theorem prefix_one (c b : UInt8) (l : List UInt8) : List.isPrefixOf [c] (b :: l) = (c == b) := by simp [List.isPrefixOf]
theorem index_app {l r : List UInt8} {c : UInt8} (h : ∀ b ∈ l, c ≠ b) : Lib.index (l ++ c :: r) [c] = l.length := by
  induction l with
  | nil => simp [Lib.index, List.isPrefixOf]
  | cons b l ih =>
    have hb : (c == b) = false := by simp; exact h b (by simp)
    simp only [List.cons_append, Lib.index]
    rw [prefix_one, hb, ih fun x hx => h x (by simp [hx])]
    have : ((l.length : Int) == -1) = false := by rw [Bool.eq_false_iff]; intro h; have := eq_of_beq h; omega
    rw [this]
    simp
theorem index_no {l : List UInt8} {c : UInt8} (h : ∀ b ∈ l, c ≠ b) : Lib.index l [c] = -1 := by
  induction l with
  | nil => simp [Lib.index]
  | cons b l ih =>
    have hb : (c == b) = false := by simp; exact h b (by simp)
    simp only [Lib.index]
    rw [prefix_one, hb, ih fun x hx => h x (by simp [hx])]
    simp
theorem cut_app {l r : List UInt8} (h : ∀ b ∈ l, (46 : UInt8) ≠ b) : Lib.cut (l ++ 46 :: r) [46] = (l, r, true) := by
  unfold Lib.cut
  rw [index_app h, if_pos (by omega)]
  simp
theorem cut_no {l : List UInt8} (h : ∀ b ∈ l, (46 : UInt8) ≠ b) : Lib.cut l [46] = (l, [], false) := by
  unfold Lib.cut
  rw [index_no h, if_neg (by omega)]
theorem asc_not_point {L : List Int} (hd : Dig L) (n : Int) : ∀ b ∈ (if n < 0 then [45] else []) ++ ascL L, (46 : UInt8) ≠ b := by
  intro b hb
  rcases List.mem_append.1 hb with hb | hb
  · split at hb
    · simp at hb; rw [hb]; decide
    · cases hb
  · unfold ascL at hb
    rw [List.mem_reverse] at hb
    obtain ⟨d, hm, rfl⟩ := List.mem_map.1 hb
    intro h
    have := asc_toNat (hd d hm).1 (hd d hm).2
    rw [← h] at this
    have e : (46 : UInt8).toNat = 46 := rfl
    omega
/-- What stands ahead of the point, and behind it. -/
theorem cut_txt (n : Int) (s : Nat) : (Lib.cut (txt n s) [46]).1 ++ (Lib.cut (txt n s) [46]).2.1 = (if n < 0 then [45] else []) ++ ascL (lowL (digs n.natAbs) (txtN (digs n.natAbs) s)) ∧ (Lib.cut (txt n s) [46]).2.1.length = s ∧ ((Lib.cut (txt n s) [46]).2.2 = true → 0 < s) := by
  have hD := dig_digs n.natAbs
  have hH : Dig ((lowL (digs n.natAbs) (txtN (digs n.natAbs) s)).drop s) := (lowL_dig hD _).drop s
  have hj : ascL ((lowL (digs n.natAbs) (txtN (digs n.natAbs) s)).drop s) ++ ascL (lowL (digs n.natAbs) s) = ascL (lowL (digs n.natAbs) (txtN (digs n.natAbs) s)) := by
    unfold ascL
    rw [← List.reverse_append, ← List.map_append, ← lowL_take (digs n.natAbs) (show s ≤ txtN (digs n.natAbs) s by unfold txtN; omega), List.take_append_drop]
  by_cases h : 0 < s
  · have e : txt n s = ((if n < 0 then [45] else []) ++ ascL ((lowL (digs n.natAbs) (txtN (digs n.natAbs) s)).drop s)) ++ 46 :: ascL (lowL (digs n.natAbs) s) := by
      unfold txt
      rw [mag_eq]
      unfold ptB
      rw [if_pos h]
      simp
    rw [e, cut_app (asc_not_point hH n)]
    refine ⟨?_, ?_, fun _ => h⟩
    · show ((if n < 0 then [45] else []) ++ ascL ((lowL (digs n.natAbs) (txtN (digs n.natAbs) s)).drop s)) ++ ascL (lowL (digs n.natAbs) s) = _
      rw [List.append_assoc, hj]
    · show (ascL (lowL (digs n.natAbs) s)).length = s
      simp [ascL, lowL_len]
  · have hs0 : s = 0 := by omega
    subst hs0
    have e : txt n 0 = (if n < 0 then [45] else []) ++ ascL ((lowL (digs n.natAbs) (txtN (digs n.natAbs) 0)).drop 0) := by
      unfold txt
      rw [mag_eq]
      simp [ptB, lowL, ascL]
    rw [e, cut_no (asc_not_point hH n)]
    exact ⟨by simp, rfl, fun h => (by cases h)⟩
theorem txt_atoi (n : Int) (s : Nat) (hb : n.natAbs < 1000000000000000000) : Lib.atoiAll ((Lib.cut (txt n s) [46]).1 ++ (Lib.cut (txt n s) [46]).2.1) = .ok n := by
  rw [(cut_txt n s).1]
  refine atoi_num (lowL_dig (dig_digs _) _) ?_ ?_ hb
  · intro h
    have := congrArg List.length h
    rw [lowL_len] at this
    unfold txtN at this
    rw [List.length_nil] at this
    omega
  · rw [lowL_val, List.take_of_length_le (by unfold txtN; omega), valD_digs]
theorem txt_len {n : Int} {s : Nat} (h0 : -999999999999999 ≤ n) (h1 : n ≤ 999999999999999) (hs : s ≤ 12) : 1 ≤ (txt n s).length ∧ (txt n s).length ≤ 17 := by
  have hl : (digs n.natAbs).length ≤ 15 := len_digs_le (by omega)
  have e : (txt n s).length = (if n < 0 then 1 else 0) + (txtN (digs n.natAbs) s - s) + (if 0 < s then 1 else 0) + s := by
    unfold txt
    rw [mag_eq]
    simp only [List.length_append, ascL, List.length_reverse, List.length_map, List.length_drop, lowL_len]
    unfold ptB
    (repeat' split) <;> simp <;> omega
  rw [e]
  unfold txtN
  (repeat' split) <;> omega
end Go.Proofs.YtmchiibbodllaaaGreatDoor
