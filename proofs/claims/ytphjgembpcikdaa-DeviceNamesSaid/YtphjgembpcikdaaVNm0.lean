/- device laws: two files (plain). -/
import Derived.Test.YtphjgembpcikdaaVSync
namespace Go.Proofs.Ytphjgembpcikdaa
set_option linter.unusedVariables false
set_option linter.unnecessarySimpa false
set_option linter.unusedSimpArgs false
open Go.RowKit

section
variable {F T a b : List UInt8}
def n1 (F : List UInt8) : Ds := ⟨100, false, false, -1, [⟨F, [], 0⟩]⟩
def n2 (F a : List UInt8) : Ds := ⟨100, false, false, -2, [⟨F, a, 0⟩]⟩
def n3 (F T a : List UInt8) : Ds := ⟨100, false, false, -3, insC ⟨T, [], 0⟩ [⟨F, a, 0⟩]⟩
def n4 (F T a b : List UInt8) : Ds := ⟨100, false, false, -4, insC ⟨T, b, 0⟩ [⟨F, a, 0⟩]⟩
def n5 (T a : List UInt8) (k : Int) : Ds := ⟨100, false, false, k, [⟨T, a, 0⟩]⟩
def n6 (k : Int) : Ds := ⟨100, false, false, k, []⟩
theorem ins_two (hne : F ≠ T) : (insC ⟨T, b, 0⟩ [⟨F, a, 0⟩] = [(⟨T, b, 0⟩ : Fl), ⟨F, a, 0⟩] ∧ insC ⟨T, [], 0⟩ [⟨F, a, 0⟩] = [(⟨T, [], 0⟩ : Fl), ⟨F, a, 0⟩]) ∨ (insC ⟨T, b, 0⟩ [⟨F, a, 0⟩] = [(⟨F, a, 0⟩ : Fl), ⟨T, b, 0⟩] ∧ insC ⟨T, [], 0⟩ [⟨F, a, 0⟩] = [(⟨F, a, 0⟩ : Fl), ⟨T, [], 0⟩]) := by
  unfold insC
  dsimp only
  split
  · exact .inl ⟨rfl, rfl⟩
  · exact .inr ⟨rfl, rfl⟩
theorem nc1 (hF : okName F = true) : createD (newD 100) F = (0, n1 F) := by
  unfold createD
  rw [if_neg (by decide), hF, if_neg (by simp), if_neg (by simp [newD, lkC]), if_neg (by decide)]
  rfl
theorem nc1x (hF : okName F = false) : createD (newD 100) F = (12, newD 100) := by
  unfold createD
  rw [if_neg (by decide), hF, if_pos rfl]
theorem lk_one {f : Fl} : lkC [f] f.name = some f := by unfold lkC; simp
theorem lk_one' {f : Fl} {n : List UInt8} (h : f.name ≠ n) : lkC [f] n = none := by unfold lkC; simp [h]
theorem nc2 (ha : a.length ≤ 50) : appendD (n1 F) F a = (0, n2 F a) := by
  unfold appendD
  rw [if_neg (by simp [n1, n2, n3])]
  show (match lkC [(⟨F, [], 0⟩ : Fl)] F with | none => _ | some f => _) = _
  rw [show lkC [(⟨F, [], 0⟩ : Fl)] F = some ⟨F, [], 0⟩ from lk_one]
  dsimp only
  rw [if_neg (by show ¬ 16777216 < 0 + a.length; omega), if_neg (by show ¬ ((100 : Int) - 0 < (a.length : Int)); omega)]
  unfold perfD
  rw [if_neg (by simp [appendC, n1])]
  unfold appendC updC n1 n2
  simp [IntKind.wrap]
  decide
theorem nc3 (hT : okName T = true) (hne : F ≠ T) : createD (n2 F a) T = (0, n3 F T a) := by
  unfold createD
  rw [if_neg (by simp [n1, n2, n3]), hT, if_neg (by simp)]
  rw [show lkC (n2 F a).fs T = none from lk_one' (f := ⟨F, a, 0⟩) hne, if_neg (by simp), if_neg (by simp [n1, n2, n3])]
  unfold perfD
  rw [if_neg (by simp [n1, n2, n3])]
  unfold putFl n2 n3 delC
  have e : (F == T) = false := by simpa using hne
  simp [e, IntKind.wrap]
  decide
theorem n3_lk (hne : F ≠ T) : lkC (n3 F T a).fs T = some ⟨T, [], 0⟩ := by
  have e : (F == T) = false := by simpa using hne
  unfold n3
  dsimp only
  rcases ins_two (a := a) (b := []) hne with ⟨_, h⟩ | ⟨_, h⟩
  · rw [h]; unfold lkC; simp
  · rw [h]; unfold lkC; simp [e]
theorem nc4 (ha : a.length ≤ 50) (hb : b.length ≤ 50) (hne : F ≠ T) : appendD (n3 F T a) T b = (0, n4 F T a b) := by
  have e : (F == T) = false := by simpa using hne
  have hu : freeD (n3 F T a) = 100 - a.length := by
    unfold freeD
    rw [if_neg (by simp [n3])]
    show (100 : Int) - (usedC (n3 F T a).fs : Int) = _
    unfold n3
    dsimp only
    rw [used_ins, usedC_cons]
    simp [usedC]
  unfold appendD
  rw [if_neg (by simp [n3]), n3_lk hne]
  dsimp only
  rw [hu, if_neg (by show ¬ 16777216 < 0 + b.length; omega), if_neg (by omega)]
  unfold perfD
  rw [if_neg (by simp [appendC, n3])]
  unfold appendC n3 n4
  dsimp only
  have hw : IntKind.i64.wrap (-3 - 1) = -4 := by decide
  rw [hw]
  rcases ins_two (a := a) (b := b) hne with ⟨h1, h2⟩ | ⟨h1, h2⟩
  · rw [h1, h2]; unfold updC; simp [e]; exact fun h => absurd h hne
  · rw [h1, h2]; unfold updC; simp [e]; exact fun h => absurd h hne
theorem nc5 (hT : okName T = true) (hne : F ≠ T) : renameD (n4 F T a b) F T = (0, n5 T a (-5)) := by
  have e : (F == T) = false := by simpa using hne
  have e2 : (T == F) = false := by simpa using fun h => hne h.symm
  have hl : lkC (n4 F T a b).fs F = some ⟨F, a, 0⟩ := by
    unfold n4
    dsimp only
    rcases ins_two (a := a) (b := b) hne with ⟨h, _⟩ | ⟨h, _⟩
    · rw [h]; unfold lkC; simp [e2]
    · rw [h]; unfold lkC; simp
  unfold renameD
  rw [if_neg (by simp [n4]), hl]
  dsimp only
  rw [hT, if_neg (by simp)]
  unfold perfD
  rw [if_neg (by simp [n4])]
  unfold n4 n5 putFl
  dsimp only [id]
  have hw : IntKind.i64.wrap (-4 - 1) = -5 := by decide
  rw [hw]
  rcases ins_two (a := a) (b := b) hne with ⟨h1, h2⟩ | ⟨h1, h2⟩
  · rw [h1]; unfold delC; simp [e, e2, insC]
  · rw [h1]; unfold delC; simp [e, e2, insC]
theorem nc5s (hT : okName F = true) : renameD (n2 F a) F F = (0, n5 F a (-3)) := by
  unfold renameD
  rw [if_neg (by simp [n1, n2, n3]), show lkC (n2 F a).fs F = some ⟨F, a, 0⟩ from lk_one (f := ⟨F, a, 0⟩)]
  dsimp only
  rw [hT, if_neg (by simp)]
  unfold perfD
  rw [if_neg (by simp [n1, n2, n3])]
  unfold n2 n5 putFl delC
  dsimp only [id]
  have hw : IntKind.i64.wrap (-2 - 1) = -3 := by decide
  rw [hw]
  simp [insC]
theorem nf5 (k : Int) : freeD (n5 T a k) = 100 - a.length := by
  unfold freeD n5
  simp [usedC]
theorem nr5 (k : Int) : readD (n5 T a k) T 0 a.length = (a, 0) := read_all (f := ⟨T, a, 0⟩) rfl lk_one
theorem ns5 (k : Int) : sizeD (n5 T a k) T = ((a.length : Int), 0) := size_lk (f := ⟨T, a, 0⟩) rfl lk_one
theorem ns5' (k : Int) (hne : F ≠ T) : sizeD (n5 T a k) F = (0, 8) := by
  unfold sizeD
  rw [if_neg (by simp [n5]), show lkC (n5 T a k).fs F = none from lk_one' (f := ⟨T, a, 0⟩) fun h => hne h.symm]
theorem nc6 (k : Int) : removeD (n5 T a k) T = (0, n6 (IntKind.i64.wrap (k - 1))) := by
  unfold removeD
  rw [if_neg (by simp [n5]), show lkC (n5 T a k).fs T = some ⟨T, a, 0⟩ from lk_one (f := ⟨T, a, 0⟩)]
  dsimp only
  unfold perfD
  rw [if_neg (by simp [n5])]
  unfold n5 n6 delC
  simp
theorem nc7 (k : Int) : removeD (n6 k) T = (8, n6 k) := rfl
theorem nf6 (k : Int) : freeD (n6 k) = 100 := rfl
theorem nr0 (T : List UInt8) : renameD (newD 100) [97] T = (8, newD 100) := rfl
theorem nr1 (hne : F ≠ [97]) : renameD (n1 F) [97] T = (8, n1 F) := by
  unfold renameD
  rw [if_neg (by simp [n1]), show lkC (n1 F).fs [97] = none from lk_one' (f := ⟨F, [], 0⟩) hne]
theorem nr2 (hT : okName T = false) : renameD (n1 [97]) [97] T = (12, n1 [97]) := by
  unfold renameD
  rw [if_neg (by simp [n1]), show lkC (n1 [97]).fs [97] = some ⟨[97], [], 0⟩ from lk_one (f := ⟨[97], [], 0⟩)]
  dsimp only
  rw [hT, if_pos rfl]
theorem ng0 : (newD 100).Good := new_good (by decide) (by decide)
theorem ng1 (hF : okName F = true) : (n1 F).Good := by have := create_good ng0 F; rw [nc1 hF] at this; exact this
theorem ng2 (hF : okName F = true) (ha : a.length ≤ 50) : (n2 F a).Good := by have := append_good (ng1 hF) F a; rw [nc2 ha] at this; exact this
theorem ng3 (hF : okName F = true) (ha : a.length ≤ 50) (hT : okName T = true) (hne : F ≠ T) : (n3 F T a).Good := by have := create_good (ng2 hF ha) T; rw [nc3 hT hne] at this; exact this
theorem ng4 (hF : okName F = true) (ha : a.length ≤ 50) (hT : okName T = true) (hne : F ≠ T) (hb : b.length ≤ 50) : (n4 F T a b).Good := by have := append_good (ng3 hF ha hT hne) T b; rw [nc4 ha hb hne] at this; exact this
theorem ng5 (ha : a.length ≤ 50) (k : Int) : (n5 T a k).Good := ⟨⟨by show (0 : Int) ≤ 100; decide, by show (100 : Int) ≤ 1099511627776; decide, by show ((usedC [(⟨T, a, 0⟩ : Fl)] : Nat) : Int) ≤ 100; simp [usedC]; omega, by show 1 ≤ 4096; decide, by show ∀ f ∈ [(⟨T, a, 0⟩ : Fl)], f.data.length ≤ 16777216; simp; omega, by show ∀ f ∈ [(⟨T, a, 0⟩ : Fl)], f.dur ≤ f.data.length; simp⟩, List.pairwise_singleton _ _⟩
theorem ng6 (k : Int) : (n6 k).Good := ng0.same rfl rfl
end
end Go.Proofs.Ytphjgembpcikdaa
