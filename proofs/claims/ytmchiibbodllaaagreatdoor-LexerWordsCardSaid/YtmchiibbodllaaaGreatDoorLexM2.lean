/- Plain Lean: the scanner of the law's model, told in the words of XLexM. -/
import Derived.Test.YtmchiibbodllaaaGreatDoorLexM
namespace Go.Proofs.YtmchiibbodllaaaGreatDoor
set_option linter.unusedVariables false
set_option linter.unnecessarySimpa false
set_option linter.unusedSimpArgs false

/-- The model's loop over pairs of digits. -/
def hexP : Nat → List UInt8 → Nat → List UInt8 → Bd
  | 0, _, i, _ => .bad i 0
  | f + 1, r, i, acc =>
    if r.length ≤ i then .bad r.length 29
    else if (nth r i).toNat = 34 then .ok (i + 1) acc
    else if hexV (nth r i) < 0 then .bad i 13
    else if r.length ≤ i + 1 then .bad r.length 29
    else if hexV (nth r (i + 1)) < 0 then .bad (i + 1) 13
    else hexP f r (i + 2) (acc ++ [UInt8.ofNat (16 * hexV (nth r i) + hexV (nth r (i + 1))).toNat])
theorem hex_q {c : UInt8} (h : c.toNat = 34) : isHex c = false := by
  unfold isHex hexV
  simp [h]
theorem hexP_eq : ∀ (f : Nat) (r : List UInt8) (i : Nat) (acc : List UInt8), i ≤ r.length → r.length < i + f →
    hexP f r i acc = if r.length ≤ i + spn isHex (r.drop i) then .bad r.length 29 else if (nth r (i + spn isHex (r.drop i))).toNat ≠ 34 ∨ spn isHex (r.drop i) % 2 ≠ 0 then .bad (i + spn isHex (r.drop i)) 13
      else .ok (i + spn isHex (r.drop i) + 1) (acc ++ unhex ((r.drop i).take (spn isHex (r.drop i))))
  | 0, r, i, acc, h1, h2 => by omega
  | f + 1, r, i, acc, h1, h2 => by
    unfold hexP
    by_cases hi : r.length ≤ i
    · rw [if_pos hi, spn_end _ hi, if_pos (by omega)]
    · rw [if_neg hi]
      by_cases hq : (nth r i).toNat = 34
      · rw [if_pos hq, spn_no (hex_q hq)]
        simp only [Nat.add_zero]
        rw [if_neg hi, if_neg (by simp [hq])]
        simp [unhex]
      · rw [if_neg hq]
        by_cases hx : hexV (nth r i) < 0
        · have hn : isHex (nth r i) = false := by unfold isHex; simp; omega
          rw [if_pos hx, spn_no hn, Nat.add_zero, if_neg hi, if_pos (.inl hq)]
        · rw [if_neg hx]
          have hy : isHex (nth r i) = true := by unfold isHex; simp; omega
          rw [spn_yes (by omega) hy]
          by_cases hi2 : r.length ≤ i + 1
          · rw [if_pos hi2, spn_end _ hi2, if_pos (by omega)]
          · rw [if_neg hi2]
            by_cases hx2 : hexV (nth r (i + 1)) < 0
            · have hn : isHex (nth r (i + 1)) = false := by unfold isHex; simp; omega
              rw [if_pos hx2, spn_no hn, Nat.zero_add, if_neg hi2, if_pos (.inr (by decide))]
            · rw [if_neg hx2]
              have hy2 : isHex (nth r (i + 1)) = true := by unfold isHex; simp; omega
              rw [spn_yes (by omega) hy2, hexP_eq f r (i + 2) _ (by omega) (by omega)]
              have e1 : i + 1 + 1 = i + 2 := rfl
              have e2 : i + 2 + spn isHex (r.drop (i + 2)) = i + (spn isHex (r.drop (i + 1 + 1)) + 1 + 1) := by rw [e1]; omega
              have e3 : (spn isHex (r.drop (i + 1 + 1)) + 1 + 1) % 2 = spn isHex (r.drop (i + 2)) % 2 := by rw [e1]; omega
              rw [e2, e3]
              have e4 : (r.drop i).take (spn isHex (r.drop (i + 1 + 1)) + 1 + 1) = nth r i :: nth r (i + 1) :: (r.drop (i + 2)).take (spn isHex (r.drop (i + 2))) := by
                rw [drop_cons (show i < r.length by omega), drop_cons (show i + 1 < r.length by omega)]
                rfl
              rw [e4, unhex, List.append_assoc]
              rfl
theorem unhex_len : ∀ (n : Nat) (l : List UInt8), l.length ≤ n → (unhex l).length = l.length / 2
  | 0, [], _ => rfl
  | _ + 1, [], _ => rfl
  | _ + 1, [_], _ => by simp [unhex]
  | n + 1, a :: b :: r, h => by
    have := unhex_len n r (by simp at h; omega)
    simp only [unhex, List.length_cons, this]
    omega
/-- The model's escape counts at most six digits. -/
theorem esc_model (q : List UInt8) (hs : simple (nth q 1) = none) :
    esc q = if (nth q 1).toNat ≠ 117 ∨ (nth q 2).toNat ≠ 123 ∨ min 6 (spn isHex (q.drop 3)) = 0 ∨ (nth q (3 + min 6 (spn isHex (q.drop 3)))).toNat ≠ 125 then .bad 13
      else if isPt (hexN ((q.drop 3).take (min 6 (spn isHex (q.drop 3))))) = true then .ok (3 + min 6 (spn isHex (q.drop 3)) + 1) (Utf8.encode (hexN ((q.drop 3).take (min 6 (spn isHex (q.drop 3)))))).data.toList
      else .bad 16 := by
  unfold esc
  rw [hs]
  simp only
  by_cases h6 : spn isHex (q.drop 3) ≤ 6
  · rw [Nat.min_eq_right h6]
    by_cases hc : (nth q 1).toNat = 117 ∧ (nth q 2).toNat = 123 ∧ 1 ≤ spn isHex (q.drop 3) ∧ spn isHex (q.drop 3) ≤ 6 ∧ (nth q (3 + spn isHex (q.drop 3))).toNat = 125
    · rw [if_pos hc, if_neg (show ¬ (_ ∨ _ ∨ _ ∨ _) by omega)]
    · rw [if_neg hc, if_pos (show _ ∨ _ ∨ _ ∨ _ by omega)]
  · rw [if_neg (by omega), Nat.min_eq_left (by omega)]
    have h1 : ∀ (n : Nat) (r : List UInt8) (k : Nat), k < spn isHex r → isHex (nth r k) = true := by
      intro n r k
      induction r generalizing k with
      | nil => intro h; simp [spn] at h
      | cons c r ih =>
        intro h
        unfold spn at h
        split at h
        · rename_i hc
          cases k with
          | zero => exact hc
          | succ k => exact ih k (by omega)
        · omega
    have h2 := h1 0 (q.drop 3) 6 (by omega)
    rw [nth_drop] at h2
    rw [if_pos]
    refine .inr (.inr (.inr fun h3 => ?_))
    unfold isHex hexV at h2
    simp [h3] at h2
theorem spn_all {p : UInt8 → Bool} : ∀ {r : List UInt8} {k : Nat}, k < spn p r → p (nth r k) = true
  | [], k, h => by simp [spn] at h
  | c :: r, k, h => by
    unfold spn at h
    split at h
    · rename_i hc
      cases k with
      | zero => exact hc
      | succ k => exact spn_all (r := r) (k := k) (by omega)
    · omega
theorem hexN_app (a : List UInt8) (c : UInt8) : hexN (a ++ [c]) = 16 * hexN a + hexV c := by unfold hexN; rw [List.foldl_append]; rfl
theorem hexN_bd : ∀ (k : Nat) (a : List UInt8), a.length ≤ k → (∀ c ∈ a, isHex c = true) → 0 ≤ hexN a ∧ hexN a < 16 ^ k := by
  intro k
  induction k with
  | zero =>
    intro a h _
    have : a = [] := List.eq_nil_of_length_eq_zero (by omega)
    subst this
    simp [hexN]
  | succ k ih =>
    intro a h hx
    rcases List.eq_nil_or_concat a with rfl | ⟨b, c, rfl⟩
    · simp only [hexN, List.foldl_nil]
      exact ⟨by omega, Int.pow_pos (by omega)⟩
    · rw [List.concat_eq_append] at *
      rw [hexN_app]
      have h1 := ih b (by simp at h; omega) (fun c hc => hx c (List.mem_append_left _ hc))
      have h2 : isHex c = true := hx c (by simp)
      have h3 := hex_bd c
      unfold isHex at h2
      simp only [decide_eq_true_eq] at h2
      rw [Int.pow_succ]
      omega
/-- The tokens' count does not matter to the place. -/
theorem lc_take {l : List UInt8} {i : Nat} (h : i < l.length) : lc (l.take (i + 1)) = lcF (lc (l.take i)) (nth l i) := by
  rw [List.take_add_one, List.getElem?_eq_getElem h, nth_get h]
  exact lc_app _ _
end Go.Proofs.YtmchiibbodllaaaGreatDoor
