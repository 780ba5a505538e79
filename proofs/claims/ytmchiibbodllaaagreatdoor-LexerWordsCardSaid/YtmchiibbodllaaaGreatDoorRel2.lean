/- Plain Lean: words, numbers and symbols are read again with another rest. -/
import Derived.Test.YtmchiibbodllaaaGreatDoorRel1
namespace Go.Proofs.YtmchiibbodllaaaGreatDoor
set_option linter.unusedVariables false
set_option linter.unnecessarySimpa false
set_option linter.unusedSimpArgs false

section
variable {a z z' : List UInt8} {t : Tk}
theorem take_app (a z : List UInt8) {k : Nat} (h : k ≤ a.length) : (a ++ z).take k = a.take k := List.take_append_of_le_length h
theorem drop_app (a z : List UInt8) {k : Nat} (h : k ≤ a.length) : (a ++ z).drop k = a.drop k ++ z := List.drop_append_of_le_length h
theorem lexW_swap (hs : sig z = sig z') (h : lexW (a ++ z) = .ok a.length t) : lexW (a ++ z') = .ok a.length t := by
  unfold lexW at h
  split at h
  · cases h
  · rename_i hn
    injection h with h1 h2
    have h3 := spn_swap even_part hs (a := a) (by omega)
    unfold lexW
    rw [h3, if_neg hn, h1, take_app _ _ (Nat.le_refl _)]
    rw [h1, take_app _ _ (Nat.le_refl _)] at h2
    rw [h2]
theorem numN_swap (hs : sig z = sig z') (h : (numN (a ++ z)).1 = a.length) (hl : 1 ≤ a.length) : numN (a ++ z') = numN (a ++ z) ∧ spn isDig (a ++ z') = spn isDig (a ++ z) := by
  have hle : spn isDig (a ++ z) ≤ a.length := by
    unfold numN at h
    split at h
    · simp only at h; omega
    · split at h
      · simp only at h; omega
      · simp only at h; omega
  have hw := spn_swap even_dig hs (a := a) hle
  refine ⟨?_, hw⟩
  unfold numN
  rw [hw]
  unfold numN at h
  generalize spn isDig (a ++ z) = w at *
  by_cases h1 : (nth (a ++ z) w).toNat = 46 ∧ isDig (nth (a ++ z) (w + 1)) = true
  · rw [if_pos h1] at h
    simp only at h
    have hf : w + 1 ≤ a.length := by omega
    have hf2 : 1 ≤ spn isDig ((a ++ z).drop (w + 1)) := by
      refine spn_pos ?_ h1.2
      rcases Nat.lt_or_ge (w + 1) (a ++ z).length with h' | h'
      · exact h'
      · rw [nth_end h'] at h1; exact absurd h1.2 (by decide)
    have e0 : nth (a ++ z') w = nth (a ++ z) w := by rw [nth_app1 (by omega), nth_app1 (by omega)]
    have e1 : nth (a ++ z') (w + 1) = nth (a ++ z) (w + 1) := by rw [nth_app1 (by omega), nth_app1 (by omega)]
    have e2 : spn isDig ((a ++ z').drop (w + 1)) = spn isDig ((a ++ z).drop (w + 1)) := by
      rw [drop_app _ _ hf] at h ⊢
      rw [drop_app _ _ hf]
      refine spn_swap even_dig hs ?_
      simp only [List.length_drop]
      omega
    rw [e0, e1, if_pos h1, if_pos h1, e2]
  · rw [if_neg h1] at h ⊢
    by_cases h2 : (nth (a ++ z) w).toNat = 100 ∧ isPart (nth (a ++ z) (w + 1)) = false
    · rw [if_pos h2] at h ⊢
      simp only at h
      have e0 : nth (a ++ z') w = nth (a ++ z) w := by rw [nth_app1 (by omega), nth_app1 (by omega)]
      have e1 : isPart (nth (a ++ z') (w + 1)) = isPart (nth (a ++ z) (w + 1)) := by
        rw [h, nth_appL, nth_appL]
        exact (sigP1 even_part hs).symm
      rw [e0, e1, if_neg (fun x => by have := h2.1; omega), if_pos h2]
    · rw [if_neg h2] at h ⊢
      simp only at h
      subst h
      have e0 : ∀ y : List UInt8, nth (a ++ y) a.length = nth y 0 := fun y => nth_appL a y
      have e1 : ∀ y : List UInt8, nth (a ++ y) (a.length + 1) = nth y 1 := fun y => nth_app2 a y 1
      rw [e0, e1] at h1 h2 ⊢
      rw [if_neg, if_neg]
      · rintro ⟨k1, k2⟩
        have k3 := sigP2 even_part hs.symm (.inr k1)
        rw [← k3.2] at h2
        rw [k3.1] at h2
        exact h2 ⟨k1, k2⟩
      · rintro ⟨k1, k2⟩
        have k3 := sigP2 even_dig hs.symm (.inl k1)
        rw [← k3.2, k3.1] at h1
        exact h1 ⟨k1, k2⟩
theorem lexN_swap (hs : sig z = sig z') (hl : 1 ≤ a.length) (hd : isDig (nth a 0) = true) (h : lexN (a ++ z) = .ok a.length t) : lexN (a ++ z') = .ok a.length t := by
  have hd' : ∀ y : List UInt8, nth (a ++ y) 0 = nth a 0 := fun y => nth_app1 (by omega)
  have hb := numN_bd (r := a ++ z) (by simp; omega) (by rw [hd']; exact hd)
  unfold lexN at h ⊢
  rw [hd'] at h ⊢
  by_cases h1 : 1 < spn isDig (a ++ z) ∧ (nth a 0).toNat = 48
  · rw [if_pos h1] at h; cases h
  · rw [if_neg h1] at h
    by_cases h2 : (parseN ((a ++ z).take (numN (a ++ z)).2)).2.2 ≠ 0
    · rw [if_pos h2] at h; cases h
    · rw [if_neg h2] at h
      injection h with h3 h4
      obtain ⟨e1, e2⟩ := numN_swap hs h3 hl
      rw [e1, e2, if_neg h1]
      rw [take_app _ _ (show (numN (a ++ z)).2 ≤ a.length by omega), take_app _ _ (show (numN (a ++ z)).1 ≤ a.length by omega)] at *
      rw [if_neg h2, h4, h3]
theorem lexY_swap (hs : sig z = sig z') (hl : 1 ≤ a.length) (h : lexY (a ++ z) = .ok a.length t) : lexY (a ++ z') = .ok a.length t := by
  have hd' : ∀ y : List UInt8, nth (a ++ y) 0 = nth a 0 := fun y => nth_app1 (by omega)
  unfold lexY at h ⊢
  rw [hd'] at h ⊢
  by_cases h2 : 2 ≤ a.length
  · rw [take_app _ _ h2, take_app _ _ (by omega)] at h ⊢
    exact h
  · have h1 : a.length = 1 := by omega
    obtain ⟨c, rfl⟩ := List.length_eq_one_iff.1 h1
    by_cases hp : ([c] ++ z).take 2 ∈ pairsL
    · rw [if_pos hp] at h
      injection h with h3 h4
      simp at h3
    · rw [if_neg hp] at h
      have hp' : ¬ ([c] ++ z').take 2 ∈ pairsL := by
        intro k
        have hz : z' ≠ [] := fun e => by subst e; have := pair_len k; simp at this
        obtain ⟨d, r, rfl⟩ := List.exists_cons_of_ne_nil hz
        have k1 : [c, d] ∈ pairsL := k
        have hev : Even (fun d => decide ([c, d] ∈ pairsL)) false := by
          refine ⟨?_, ?_, ?_, ?_, ?_⟩ <;> simp [pairsL]
        have k2 := sigP1 hev hs
        have k3 : decide ([c, nth (d :: r) 0] ∈ pairsL) = true := by simpa [nth] using k1
        have k2 : decide ([c, nth z 0] ∈ pairsL) = decide ([c, nth (d :: r) 0] ∈ pairsL) := k2
        rw [k3] at k2
        have k4 : [c, nth z 0] ∈ pairsL := by simpa using k2
        have hz' : z ≠ [] := fun e => by subst e; rw [show nth [] 0 = 0 from rfl] at k4; simp [pairsL] at k4
        obtain ⟨d', r', rfl⟩ := List.exists_cons_of_ne_nil hz'
        exact hp k4
      rw [if_neg hp']
      exact h
/-- The head of the text tells which of the ways reads it. -/
def way (r : List UInt8) : Nat := if (nth r 0).toNat = 120 ∧ (nth r 1).toNat = 34 then 0 else if isLet (nth r 0) = true then 1 else if isDig (nth r 0) = true then 2 else if (nth r 0).toNat = 34 then 3 else 4
theorem lex1_swap (hs : sig z = sig z') (hl : 1 ≤ a.length) (hw : way (a ++ z) ≠ 0 ∧ way (a ++ z) ≠ 3) (h : lex1 (a ++ z) = .ok a.length t) : lex1 (a ++ z') = .ok a.length t := by
  have hd' : ∀ y : List UInt8, nth (a ++ y) 0 = nth a 0 := fun y => nth_app1 (by omega)
  have hx : ((nth (a ++ z') 0).toNat = 120 ∧ (nth (a ++ z') 1).toNat = 34) ↔ ((nth (a ++ z) 0).toNat = 120 ∧ (nth (a ++ z) 1).toNat = 34) := by
    rw [hd', hd']
    rcases Nat.lt_or_ge 1 a.length with h2 | h2
    · rw [nth_app1 h2, nth_app1 h2]
    · have e : ∀ y : List UInt8, nth (a ++ y) 1 = nth y 0 := fun y => by
        have := nth_appL a y
        rwa [show a.length = 1 by omega] at this
      rw [e, e]
      have := sigP1 (even_nat (k := 34) (by decide)) hs
      have h3 : (nth z 0).toNat = 34 ↔ (nth z' 0).toNat = 34 := by
        simp only [decide_eq_decide] at this
        exact this
      rw [h3]
  unfold way at hw
  unfold lex1 at h ⊢
  rw [hd'] at *
  by_cases h0 : (nth a 0).toNat = 120 ∧ (nth (a ++ z) 1).toNat = 34
  · rw [if_pos h0] at hw; exact absurd rfl hw.1
  · have h0' : ¬ ((nth a 0).toNat = 120 ∧ (nth (a ++ z') 1).toNat = 34) := fun k => h0 (by have := hx.1 k; rwa [hd'] at this)
    rw [if_neg h0] at h hw
    rw [if_neg h0']
    by_cases h1 : isLet (nth a 0) = true
    · rw [if_pos h1] at h ⊢
      exact lexW_swap hs h
    · rw [if_neg h1] at h hw ⊢
      by_cases h2 : isDig (nth a 0) = true
      · rw [if_pos h2] at h ⊢
        exact lexN_swap hs hl h2 h
      · rw [if_neg h2] at h hw ⊢
        by_cases h3 : (nth a 0).toNat = 34
        · rw [if_pos h3] at hw; exact absurd rfl hw.2
        · rw [if_neg h3] at h ⊢
          exact lexY_swap hs hl h
end
end Go.Proofs.YtmchiibbodllaaaGreatDoor
