/- Plain Lean: texts of blanks alone, and of semicolons alone. -/
import Derived.Test.YtmchiibbodllaaaDoorScK
namespace Go.Proofs.YtmchiibbodllaaaDoor
set_option linter.unusedVariables false
set_option linter.unnecessarySimpa false
set_option linter.unusedSimpArgs false

theorem lc_noNL : ∀ (l : List UInt8) (p : Nat × Nat), (∀ c ∈ l, c.toNat ≠ 10) → l.foldl lcF p = (p.1, p.2 + l.length)
  | [], p, _ => rfl
  | c :: l, p, h => by
    rw [List.foldl_cons, lc_noNL l _ (fun x hx => h x (by simp [hx]))]
    unfold lcF
    rw [if_neg (h c (by simp))]
    simp
    omega
theorem lnc_rep {k i : Nat} {c : UInt8} (hc : c.toNat ≠ 10) (hi : i ≤ k) : lnc (List.replicate k c) i = (1, (i : Int) + 1) := by
  unfold lnc lc
  rw [List.take_replicate, Nat.min_eq_left hi, lc_noNL _ _ (fun x hx => by rw [(List.mem_replicate.1 hx).2]; exact hc)]
  simp
  omega
theorem blk_sp : ∀ k : Nat, blk false (List.replicate k 32) = k
  | 0 => rfl
  | k + 1 => by
    rw [List.replicate_succ, blk, if_pos (by decide), blk_sp k]
    omega
theorem scan_sp (k : Nat) : scanL (List.replicate k 32) = .ok [] := by
  unfold scanL scanF
  rw [List.drop_zero, blk_sp, if_pos (by simp)]
theorem blk_semi (k : Nat) : blk false (List.replicate k 59) = 0 := by
  rcases k with _ | k
  · rfl
  · rw [List.replicate_succ, blk, if_neg (by decide), if_neg (fun h => absurd h.1 (by decide))]
theorem lex_semi (k : Nat) : lex1 (List.replicate (k + 1) 59) = .ok 1 ⟨5, [59], [], 0, 0⟩ := by
  have h0 : nth (List.replicate (k + 1) (59 : UInt8)) 0 = 59 := rfl
  have hp : (List.replicate (k + 1) (59 : UInt8)).take 2 ∉ pairsL := by
    rcases k with _ | k
    · decide
    · have : (List.replicate (k + 1 + 1) (59 : UInt8)).take 2 = [59, 59] := rfl
      rw [this]
      decide
  unfold lex1 lexY
  rw [h0, if_neg (fun h => absurd h.1 (by decide)), if_neg (by decide), if_neg (by decide), if_neg (by decide), if_neg hp, if_pos (by decide)]
  rfl
theorem scan_semiF (k : Nat) : ∀ (d i f : Nat) (last : Option Nat) (acc : List Pl), i + d = k → k < i + f → acc.length = i → i ≤ 16384 →
    if k ≤ 16384 then ∃ ts, scanF (List.replicate k 59) f i last acc = .ok ts ∧ ts.length = k else scanF (List.replicate k 59) f i last acc = .bad 16384 9
  | 0, i, f, last, acc, h1, h2, h3, h4 => by
    obtain ⟨f, rfl⟩ : ∃ g, f = g + 1 := ⟨f - 1, by omega⟩
    rw [if_pos (by omega)]
    refine ⟨acc, ?_, by omega⟩
    unfold scanF
    rw [List.drop_replicate, blk_semi, if_pos (by simp; omega)]
  | d + 1, i, f, last, acc, h1, h2, h3, h4 => by
    obtain ⟨f, rfl⟩ : ∃ g, f = g + 1 := ⟨f - 1, by omega⟩
    by_cases hm : acc.length = 16384
    · rw [if_neg (by omega)]
      unfold scanF
      rw [List.drop_replicate, blk_semi, Nat.add_zero, if_neg (by rw [List.length_replicate]; omega), if_pos hm]
      rw [h3] at hm
      rw [hm]
    · have hd : k - i = d + 1 := by omega
      unfold scanF
      rw [List.drop_replicate, blk_semi, Nat.add_zero]
      split
      · rename_i hk
        rw [if_neg (by rw [List.length_replicate]; omega), List.drop_replicate, hd, lex_semi]
        have := scan_semiF k d (i + 1) f (some (i + 1)) (acc ++ [⟨i, decide (last = some i), ⟨5, [59], [], 0, 0⟩⟩]) (by omega) (by omega) (by simp [h3]) (by omega)
        rw [if_pos hk] at this
        exact this
      · rename_i hk
        rw [if_neg (by rw [List.length_replicate]; omega), List.drop_replicate, hd, lex_semi]
        have := scan_semiF k d (i + 1) f (some (i + 1)) (acc ++ [⟨i, decide (last = some i), ⟨5, [59], [], 0, 0⟩⟩]) (by omega) (by omega) (by simp [h3]) (by omega)
        rw [if_neg hk] at this
        exact this
theorem scan_semi (k : Nat) : if k ≤ 16384 then ∃ ts, scanL (List.replicate k 59) = .ok ts ∧ ts.length = k else scanL (List.replicate k 59) = .bad 16384 9 := by
  have := scan_semiF k k 0 (k + 1) none [] (by omega) (by omega) rfl (by omega)
  unfold scanL
  rw [List.length_replicate]
  exact this
end Go.Proofs.YtmchiibbodllaaaDoor
