/- device laws: a device with a limit beside one without (plain). -/
import Derived.Test.YtphjgembpcikdaaVDs
namespace Go.Proofs.Ytphjgembpcikdaa
set_option linter.unusedVariables false
set_option linter.unnecessarySimpa false
set_option linter.unusedSimpArgs false
open Go.RowKit

/-- t is s with a limit of k operations. -/
structure LimR (s t : Ds) (k : Int) : Prop where
  room : t.room = s.room
  fs : t.fs = s.fs
  su : s.down = false
  tu : t.down = false
  sl : s.lim = false
  tl : t.lim = true
  left : t.left = k
/-- What an operation of both gives. -/
def Out (s t : Ds) (k : Int) (a b : Int × Ds) : Prop :=
  (a.1 ≠ 0 ∧ a.2 = s ∧ b = (a.1, t)) ∨ (a.1 = 0 ∧ ((0 < k ∧ b.1 = 0 ∧ LimR a.2 b.2 (IntKind.i64.wrap (k - 1))) ∨ (k ≤ 0 ∧ b.1 = 31 ∧ b.2.down = true)))
section
variable {s t : Ds} {k : Int}
theorem Out.err {e : Int} (he : e ≠ 0) : Out s t k (e, s) (e, t) := .inl ⟨he, rfl, rfl⟩
theorem Out.ite {c : Prop} [Decidable c] {A B A' B' : Int × Ds} (h1 : c → Out s t k A B) (h2 : ¬ c → Out s t k A' B') : Out s t k (if c then A else A') (if c then B else B') := by
  by_cases hc : c
  · rw [if_pos hc, if_pos hc]; exact h1 hc
  · rw [if_neg hc, if_neg hc]; exact h2 hc
theorem Out.perf {f g : Ds → Ds} (h : LimR s t k) (hf : ∀ s t k, LimR s t k → LimR (f s) (f t) k) (hg : ∀ s t k, LimR s t k → LimR (g s) (g t) k) : Out s t k (perfD s f g) (perfD t f g) := by
  refine .inr ?_
  unfold perfD
  rw [h.sl, h.tl, h.left, if_neg (by simp)]
  refine ⟨rfl, ?_⟩
  have h1 := hf _ _ _ h
  by_cases hk : k ≤ 0
  · rw [if_pos ⟨rfl, hk⟩]
    exact .inr ⟨hk, rfl, rfl⟩
  · rw [if_neg (fun hh => hk hh.2)]
    refine .inl ⟨by omega, rfl, hg _ _ _ ?_⟩
    obtain ⟨a, b, c, d, e, f', g'⟩ := h1
    exact ⟨a, b, c, d, e, f', rfl⟩
theorem LimR.fsMap (h : LimR s t k) (F : List Fl → List Fl) : LimR { s with fs := F s.fs } { t with fs := F t.fs } k := by
  obtain ⟨a, b, c, d, e, f, g⟩ := h
  exact ⟨a, by show F t.fs = F s.fs; rw [b], c, d, e, f, g⟩
theorem oper_lim (h : LimR s t k) (o : LOp) (i : Nat) : Out s t k (operD s o i) (operD t o i) := by
  have hf : freeD t = freeD s := by unfold freeD; rw [h.su, h.tu, h.fs, h.room]
  have idp : ∀ s t k, LimR s t k → LimR (id s) (id t) k := fun _ _ _ h => h
  unfold operD
  split
  · unfold createD
    rw [h.su, h.tu, h.fs]
    simp only [Bool.false_eq_true, if_false]
    refine Out.ite (fun _ => Out.err (e := _) (by first | decide | simp)) fun _ => Out.ite (fun _ => Out.err (e := _) (by first | decide | simp)) fun _ => Out.ite (fun _ => Out.err (e := _) (by first | decide | simp)) fun _ => Out.perf h idp fun s t k h => h.fsMap (putFl · ⟨nameL o.name, [], 0⟩)
  · unfold appendD
    rw [h.su, h.tu, h.fs, hf]
    simp only [Bool.false_eq_true, if_false]
    rcases hl : lkC s.fs (nameL o.name) with _ | f
    · exact Out.err (e := _) (by first | decide | simp)
    · exact Out.ite (fun _ => Out.err (e := _) (by first | decide | simp)) fun _ => Out.ite (fun _ => Out.err (e := _) (by first | decide | simp)) fun _ => Out.perf h (fun s t k h => h.fsMap (updC · (nameL o.name) ⟨f.name, f.data ++ dataL i (o.data % 64), f.dur⟩)) idp
  · unfold truncD
    rw [h.su, h.tu, h.fs]
    simp only [Bool.false_eq_true, if_false]
    rcases hl : lkC s.fs (nameL o.name) with _ | f
    · exact Out.err (e := _) (by first | decide | simp)
    · exact Out.ite (fun _ => Out.err (e := _) (by first | decide | simp)) fun _ => Out.perf h idp fun s t k h => h.fsMap (updC · (nameL o.name) ⟨f.name, f.data.take o.num.toNat, min f.dur o.num.toNat⟩)
  · unfold removeD
    rw [h.su, h.tu, h.fs]
    simp only [Bool.false_eq_true, if_false]
    rcases hl : lkC s.fs (nameL o.name) with _ | f
    · exact Out.err (e := _) (by first | decide | simp)
    · exact Out.perf h idp fun s t k h => h.fsMap (delC · (nameL o.name))
  · unfold renameD
    rw [h.su, h.tu, h.fs]
    simp only [Bool.false_eq_true, if_false]
    rcases hl : lkC s.fs (nameL o.name) with _ | f
    · exact Out.err (e := _) (by first | decide | simp)
    · exact Out.ite (fun _ => Out.err (e := _) (by first | decide | simp)) fun _ => Out.perf h idp fun s t k h => h.fsMap (fun l => putFl (delC l (nameL o.name)) ⟨nameL o.other, f.data, f.dur⟩)
  · unfold syncD
    rw [h.su, h.tu, h.fs]
    simp only [Bool.false_eq_true, if_false]
    rcases hl : lkC s.fs (nameL o.name) with _ | f
    · exact Out.err (e := _) (by first | decide | simp)
    · exact Out.perf h idp fun s t k h => h.fsMap (updC · (nameL o.name) { f with dur := f.data.length })
theorem oper_down (h : s.down = true) (o : LOp) (i : Nat) : operD s o i = (31, s) := by
  unfold operD
  split
  · unfold createD; rw [if_pos h]
  · unfold appendD; rw [if_pos h]
  · unfold truncD; rw [if_pos h]
  · unfold removeD; rw [if_pos h]
  · unfold renameD; rw [if_pos h]
  · unfold syncD; rw [if_pos h]
end
end Go.Proofs.Ytphjgembpcikdaa
