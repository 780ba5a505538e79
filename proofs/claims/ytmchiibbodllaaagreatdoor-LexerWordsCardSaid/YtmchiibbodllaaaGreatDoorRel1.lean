/- Plain Lean: a token's end depends on little of what comes behind it. -/
import Derived.Test.YtmchiibbodllaaaGreatDoorLexM2
namespace Go.Proofs.YtmchiibbodllaaaGreatDoor
set_option linter.unusedVariables false
set_option linter.unnecessarySimpa false
set_option linter.unusedSimpArgs false

/-- Nothing, a blank or a comment comes. -/
def gap (z : List UInt8) : Bool := z.isEmpty || decide (0 < blk false z)
def sig0 (z : List UInt8) : UInt8 := if gap z = true then 32 else nth z 0
/-- What a token can see of what comes behind it. -/
def sig (z : List UInt8) : UInt8 × UInt8 := if gap z = true then (32, 32) else if (nth z 0).toNat = 46 ∨ (nth z 0).toNat = 100 then (nth z 0, sig0 (z.drop 1)) else (nth z 0, 0)
/-- A property that blanks, the slash and the end share. -/
def Even (p : UInt8 → Bool) (v : Bool) : Prop := p 32 = v ∧ p 9 = v ∧ p 10 = v ∧ p 47 = v ∧ p 0 = v
theorem u8_of {c : UInt8} {n : Nat} (h : c.toNat = n) (hn : n < 256) : c = UInt8.ofNat n := by
  apply UInt8.toNat_inj.1
  rw [h, UInt8.toNat_ofNat']
  omega
theorem gap_even {p : UInt8 → Bool} {v : Bool} (hp : Even p v) {z : List UInt8} (h : gap z = true) : p (nth z 0) = v := by
  obtain ⟨h1, h2, h3, h4, h5⟩ := hp
  rcases z with _ | ⟨c, r⟩
  · exact h5
  · have hb : 0 < blk false (c :: r) := by simpa [gap] using h
    rw [blk] at hb
    show p c = v
    by_cases hc : isBl c = true
    · unfold isBl at hc
      simp only [Bool.or_eq_true, decide_eq_true_eq] at hc
      rcases hc with (hc | hc) | hc
      · rw [u8_of hc (by decide)]; exact h1
      · rw [u8_of hc (by decide)]; exact h2
      · rw [u8_of hc (by decide)]; exact h3
    · rw [if_neg hc] at hb
      split at hb
      · rename_i h6
        rw [u8_of h6.1 (by decide)]
        exact h4
      · omega
theorem sig0_even {p : UInt8 → Bool} {v : Bool} (hp : Even p v) (z : List UInt8) : p (sig0 z) = p (nth z 0) := by
  unfold sig0
  split
  · rename_i h
    rw [gap_even hp h, hp.1]
  · rfl
theorem sig_fst (z : List UInt8) : (sig z).1 = sig0 z := by
  unfold sig sig0
  split
  · rfl
  · split <;> rfl
theorem sigP1 {p : UInt8 → Bool} {v : Bool} (hp : Even p v) {z z' : List UInt8} (h : sig z = sig z') : p (nth z 0) = p (nth z' 0) := by
  rw [← sig0_even hp, ← sig0_even hp, ← sig_fst, ← sig_fst, h]
theorem sig_snd {z : List UInt8} (h : (sig z).1.toNat = 46 ∨ (sig z).1.toNat = 100) : (sig z).2 = sig0 (z.drop 1) := by
  unfold sig at h ⊢
  split at h
  · simp at h
  · rename_i hg
    rw [if_neg hg]
    split at h
    · rename_i h2; rw [if_pos h2]
    · rename_i h2; exact absurd h h2
theorem nth_drop1 (z : List UInt8) : nth (z.drop 1) 0 = nth z 1 := nth_drop z 1 0
theorem sigP2 {p : UInt8 → Bool} {v : Bool} (hp : Even p v) {z z' : List UInt8} (h : sig z = sig z') (hc : (nth z 0).toNat = 46 ∨ (nth z 0).toNat = 100) : nth z' 0 = nth z 0 ∧ p (nth z 1) = p (nth z' 1) := by
  have hq : ∀ k : Nat, k = 46 ∨ k = 100 → Even (fun c => decide (c.toNat = k)) false := fun k hk => by
    rcases hk with rfl | rfl <;> exact ⟨by decide, by decide, by decide, by decide, by decide⟩
  have key : ∀ k : Nat, k = 46 ∨ k = 100 → (nth z 0).toNat = k → nth z' 0 = nth z 0 ∧ p (nth z 1) = p (nth z' 1) := fun k hk hz => by
    have h1 := sigP1 (hq k hk) h
    have hz' : (nth z' 0).toNat = k := by
      have : decide ((nth z 0).toNat = k) = true := by simp [hz]
      rw [h1] at this
      simpa using this
    have h2 := sig0_even (hq k hk) z
    have h3 := sig0_even (hq k hk) z'
    have hs : (sig z).1.toNat = k := by
      rw [sig_fst]
      have : decide ((sig0 z).toNat = k) = true := by rw [h2]; simp [hz]
      simpa using this
    have hs' : (sig z').1.toNat = k := by rw [← h]; exact hs
    have e1 := sig_snd (z := z) (by rw [hs]; exact hk)
    have e2 := sig_snd (z := z') (by rw [hs']; exact hk)
    refine ⟨UInt8.toNat_inj.1 (by rw [hz, hz']), ?_⟩
    rw [← nth_drop1, ← nth_drop1, ← sig0_even hp, ← sig0_even hp, ← e1, ← e2, h]
  rcases hc with hc | hc
  · exact key _ (.inl rfl) hc
  · exact key _ (.inr rfl) hc
/-! ### Runs over a front that stays -/
theorem nth_app1 {a z : List UInt8} {k : Nat} (h : k < a.length) : nth (a ++ z) k = nth a k := by
  unfold nth
  rw [List.getD_eq_getElem?_getD, List.getD_eq_getElem?_getD, List.getElem?_append_left h]
theorem nth_app2 (a z : List UInt8) (k : Nat) : nth (a ++ z) (a.length + k) = nth z k := by
  rw [← nth_drop]
  simp
theorem nth_appL (a z : List UInt8) : nth (a ++ z) a.length = nth z 0 := nth_app2 a z 0
theorem spn_app {p : UInt8 → Bool} : ∀ (a z : List UInt8), spn p (a ++ z) = if spn p a = a.length then a.length + spn p z else spn p a
  | [], z => by simp [spn]
  | c :: a, z => by
    rw [List.cons_append, spn, spn, spn_app a z]
    by_cases hc : p c = true
    · rw [if_pos hc, if_pos hc]
      by_cases h : spn p a = a.length
      · rw [if_pos h, if_pos (by simp [h])]
        simp
        omega
      · rw [if_neg h, if_neg (by simp [h])]
    · rw [if_neg hc, if_neg hc, if_neg (by simp)]
theorem spn0 {p : UInt8 → Bool} {z : List UInt8} (h : p (nth z 0) = false) : spn p z = 0 := spn_no (l := z) (i := 0) h
theorem spn0_iff {p : UInt8 → Bool} {z : List UInt8} (h0 : p 0 = false) : spn p z = 0 ↔ p (nth z 0) = false := by
  constructor
  · intro h
    rcases z with _ | ⟨c, r⟩
    · exact h0
    · show p c = false
      unfold spn at h
      split at h
      · omega
      · rename_i h1; simpa using h1
  · exact spn0
theorem even_part : Even isPart false := ⟨by decide, by decide, by decide, by decide, by decide⟩
theorem even_dig : Even isDig false := ⟨by decide, by decide, by decide, by decide, by decide⟩
theorem even_let : Even isLet false := ⟨by decide, by decide, by decide, by decide, by decide⟩
theorem even_nat {k : Nat} (h : k ≠ 32 ∧ k ≠ 9 ∧ k ≠ 10 ∧ k ≠ 47 ∧ k ≠ 0) : Even (fun c => decide (c.toNat = k)) false := by
  refine ⟨?_, ?_, ?_, ?_, ?_⟩ <;> simp <;> omega
/-- A run ends with the front: it does so with another rest. -/
theorem spn_swap {p : UInt8 → Bool} (hp : Even p false) {a z z' : List UInt8} (hs : sig z = sig z') : spn p (a ++ z) ≤ a.length → spn p (a ++ z') = spn p (a ++ z) := by
  intro h
  rw [spn_app, spn_app]
  by_cases ha : spn p a = a.length
  · rw [spn_app, if_pos ha] at h
    rw [if_pos ha, if_pos ha]
    have h1 : spn p z = 0 := by omega
    rw [h1, spn0 (by rw [← sigP1 hp hs]; exact (spn0_iff hp.2.2.2.2).1 h1)]
  · rw [if_neg ha, if_neg ha]
end Go.Proofs.YtmchiibbodllaaaGreatDoor
