/- device: New, check, Crash, Limit, Down. -/
import Derived.Test.YtphjgembpcikdaaDev1
namespace Go.Proofs.Ytphjgembpcikdaa
set_option linter.unusedVariables false
set_option linter.unnecessarySimpa false
set_option linter.unusedSimpArgs false
open Go.RowKit

section
variable {w w' : World} {d mb : Nat} {s s' : Ds} {fs : List FR} {r q : FR} {S : Nat → Prop}
theorem names_ne (h : DevR w d mb s fs) : fs.Pairwise fun a b => a.name ≠ b.name :=
  (own_rise h.map Try.underlying9).imp fun {a b} hab e => by rw [e, before_irr] at hab; cases hab
theorem DevR.chg (h : DevR w d mb s fs) (hS : ∀ x, S x ↔ hasD d mb fs x) (h' : DevR w' d mb s' fs) (hc : DChg S w w') : ∃ S', DevW w' d S' s' ∧ (∀ x, S' x → S x ∨ w.heap.size ≤ x) ∧ DChg S w w' :=
  ⟨S, ⟨mb, fs, h', hS⟩, fun x hx => .inl hx, hc⟩
/-- What an operation leaves. -/
def RetD (d : Nat) (S : Nat → Prop) (s' : Ds) (w w' : World) : Prop := ∃ S', DevW w' d S' s' ∧ (∀ x, S' x → S x ∨ w.heap.size ≤ x) ∧ DChg S w w'
theorem RetD.of_below (h : DevW w d S s) (hb : Below w.heap.size w w') : RetD d S s w w' := ⟨S, h.grow hb, fun x hx => .inl hx, DChg.of_below hb⟩
set_option maxRecDepth 20000 in set_option maxHeartbeats 400000 in
theorem new_bad (n : Int) (h : n < 0 ∨ 1099511627776 < n) : Calls Try.prog 13 #[.int .i64 n] w fun e w' => e = .returned (.tuple #[.pointer none, .int .i64 2]) ∧ Below w.heap.size w w' := by
  go_enter Try.func13, Try.ntmps13
  rcases h with h | h
  · go_wp2_with fail
    exact bodyPost_ret (v := .tuple #[.pointer none, .int .i64 2]) (by simp only [results, Try.results13]; go_simp) rfl ⟨rfl, by repeat (first | with_reducible assumption | with_reducible exact G.refl _ | with_reducible refine G.drew ?_ | with_reducible refine G.drewN ?_ _ | with_reducible refine G.alloc ?_ _ | with_reducible refine Below.setCell ?_ (by first | (simp; done) | (simp; omega)) _ | with_reducible refine G.trans ?_ hb12 | with_reducible refine G.trans ?_ hb11 | with_reducible refine G.trans ?_ hb10 | with_reducible refine G.trans ?_ hb9 | with_reducible refine G.trans ?_ hb8 | with_reducible refine G.trans ?_ hb7 | with_reducible refine G.trans ?_ hb6 | with_reducible refine G.trans ?_ hb5 | with_reducible refine G.trans ?_ hb4 | with_reducible refine G.trans ?_ hb3 | with_reducible refine G.trans ?_ hb2 | with_reducible refine G.trans ?_ hb1 | with_reducible refine G.trans ?_ hb | assumption)⟩
  · have h' : ¬ n < 0 := by omega
    go_wp2_with fail
    exact bodyPost_ret (v := .tuple #[.pointer none, .int .i64 2]) (by simp only [results, Try.results13]; go_simp) rfl ⟨rfl, by repeat (first | with_reducible assumption | with_reducible exact G.refl _ | with_reducible refine G.drew ?_ | with_reducible refine G.drewN ?_ _ | with_reducible refine G.alloc ?_ _ | with_reducible refine Below.setCell ?_ (by first | (simp; done) | (simp; omega)) _ | with_reducible refine G.trans ?_ hb12 | with_reducible refine G.trans ?_ hb11 | with_reducible refine G.trans ?_ hb10 | with_reducible refine G.trans ?_ hb9 | with_reducible refine G.trans ?_ hb8 | with_reducible refine G.trans ?_ hb7 | with_reducible refine G.trans ?_ hb6 | with_reducible refine G.trans ?_ hb5 | with_reducible refine G.trans ?_ hb4 | with_reducible refine G.trans ?_ hb3 | with_reducible refine G.trans ?_ hb2 | with_reducible refine G.trans ?_ hb1 | with_reducible refine G.trans ?_ hb | assumption)⟩
def newD (n : Int) : Ds := ⟨n, false, false, 0, []⟩
def RetNew (n : Int) (w : World) (e : Ending) (w' : World) : Prop := ∃ d S, e = .returned (.tuple #[.pointer (some ⟨d, 0, none⟩), .int .i64 0]) ∧ DevW w' d S (newD n) ∧ (∀ x, S x → w.heap.size ≤ x) ∧ Below w.heap.size w w'
set_option maxRecDepth 20000 in set_option maxHeartbeats 400000 in
theorem new_any (n : Int) (h0 : 0 ≤ n) (h1 : n ≤ 1099511627776) : Calls Try.prog 13 #[.int .i64 n] w (RetNew n w) := by
  have h0' : ¬ n < 0 := by omega
  have h1' : ¬ 1099511627776 < n := by omega
  have hmm := @run_makeMap Try.prog
  go_enter Try.func13, Try.ntmps13
  go_wp2_with fail
  refine bodyPost_ret (v := .tuple #[.pointer (some ⟨w.heap.size + 1, 0, none⟩), .int .i64 0]) (by simp only [results, Try.results13]; go_simp) rfl ⟨w.heap.size + 1, hasD (w.heap.size + 1) w.heap.size [], rfl, ⟨w.heap.size, [], ⟨Bx.new (by simp) rfl, ?_, fun r hr => (List.not_mem_nil hr).elim, List.Pairwise.nil, fun r hr => (List.not_mem_nil hr).elim, rfl, by omega⟩, fun x => Iff.rfl⟩, fun x hx => ?_, by repeat (first | with_reducible assumption | with_reducible exact G.refl _ | with_reducible refine G.drew ?_ | with_reducible refine G.drewN ?_ _ | with_reducible refine G.alloc ?_ _ | with_reducible refine Below.setCell ?_ (by first | (simp; done) | (simp; omega)) _ | with_reducible refine G.trans ?_ hb12 | with_reducible refine G.trans ?_ hb11 | with_reducible refine G.trans ?_ hb10 | with_reducible refine G.trans ?_ hb9 | with_reducible refine G.trans ?_ hb8 | with_reducible refine G.trans ?_ hb7 | with_reducible refine G.trans ?_ hb6 | with_reducible refine G.trans ?_ hb5 | with_reducible refine G.trans ?_ hb4 | with_reducible refine G.trans ?_ hb3 | with_reducible refine G.trans ?_ hb2 | with_reducible refine G.trans ?_ hb1 | with_reducible refine G.trans ?_ hb | assumption)⟩
  · exact (World.ownsMap_made w _ _ _).alloc _
  · rcases hx with rfl | rfl | ⟨r, hr, _⟩
    · omega
    · omega
    · exact (List.not_mem_nil hr).elim
/-- check's answer. -/
def chkD (s : Ds) : Int := if s.down then 31 else 0
set_option maxRecDepth 20000 in set_option maxHeartbeats 400000 in
theorem check_nil : Calls Try.prog 36 #[.pointer none] w fun e w' => e = .returned (.int .i64 1) ∧ w' = w := by
  go_enter Try.func36, Try.ntmps36
  go_wp2_with fail
  go_ret
  exact ⟨rfl, rfl⟩
set_option maxRecDepth 20000 in set_option maxHeartbeats 400000 in
theorem check_any (h : DevW w d S s) : Calls Try.prog 36 #[.pointer (some ⟨d, 0, none⟩)] w fun e w' => e = .returned (.int .i64 (chkD s)) ∧ w' = w := by
  obtain ⟨mb, fs, hR, hS⟩ := h
  have k2 := (hR.box.2 2 _ rfl).1
  have lt := hR.box.lt
  unfold chkD
  clear hR
  go_enter Try.func36, Try.ntmps36
  rcases hd : s.down with _ | _
  all_goals rw [hd] at k2
  all_goals (
    go_wp2_with fail
    go_ret
    exact ⟨rfl, rfl⟩)
set_option maxRecDepth 20000 in set_option maxHeartbeats 400000 in
theorem down_any (h : DevW w d S s) : Calls Try.prog 28 #[.pointer (some ⟨d, 0, none⟩)] w fun e w' => e = .returned (.bool s.down) ∧ w' = w := by
  obtain ⟨mb, fs, hR, hS⟩ := h
  have k2 := (hR.box.2 2 _ rfl).1
  have lt := hR.box.lt
  clear hR
  go_enter Try.func28, Try.ntmps28
  go_wp2_with fail
  go_ret
  exact ⟨rfl, rfl⟩
set_option maxRecDepth 20000 in set_option maxHeartbeats 400000 in
theorem crash_any (h : DevW w d S s) : Calls Try.prog 25 #[.pointer (some ⟨d, 0, none⟩)] w fun e w' => e = .returned (.tuple #[]) ∧ RetD d S { s with down := true } w w' := by
  obtain ⟨mb, fs, hR, hS⟩ := h
  have k2 := (hR.box.2 2 _ rfl).1
  have f2 := (hR.box.2 2 _ rfl).2
  have lt := hR.box.lt
  have H := Lib.hid hR
  clear hR
  go_enter Try.func25, Try.ntmps25
  go_wp2_with fail
  go_end0
  exact ⟨rfl, H.out.chg hS (H.out.cell (s' := { s with down := true }) rfl rfl) ((DChg.refl _ _).setCell ((hS _).2 (.inl rfl)) _ _)⟩
def limitD (s : Ds) (n : Int) : Ds := { s with lim := true, left := max 0 n }
set_option maxRecDepth 20000 in set_option maxHeartbeats 400000 in
theorem limit_any (h : DevW w d S s) (n : Int) : Calls Try.prog 27 #[.pointer (some ⟨d, 0, none⟩), .int .i64 n] w fun e w' => e = .returned (.tuple #[]) ∧ RetD d S (limitD s n) w w' := by
  obtain ⟨mb, fs, hR, hS⟩ := h
  have k3 := (hR.box.2 3 _ rfl).1
  have k4 := (hR.box.2 4 _ rfl).1
  have f3 := (hR.box.2 3 _ rfl).2
  have f4 := (hR.box.2 4 _ rfl).2
  have lt := hR.box.lt
  have H := Lib.hid hR
  clear hR
  by_cases h0 : n ≤ 0
  · have hm : limitD s n = { s with lim := true, left := 0 } := by unfold limitD; congr 1; omega
    rw [hm]
    clear hm
    go_enter Try.func27, Try.ntmps27
    go_wp2_with fail
    go_end0
    have h1 := H.out.cell (i := 3) (v := .bool true) (s' := { s with lim := true }) rfl rfl
    exact ⟨rfl, H.out.chg hS (h1.cell (i := 4) (v := .int .i64 0) (s' := { s with lim := true, left := 0 }) rfl rfl) (((DChg.refl _ _).setCell ((hS _).2 (.inl rfl)) _ _).setCell ((hS _).2 (.inl rfl)) _ _)⟩
  · have hm : limitD s n = { s with lim := true, left := n } := by unfold limitD; congr 1; omega
    rw [hm]
    clear hm
    go_enter Try.func27, Try.ntmps27
    go_wp2_with fail
    go_end0
    have h1 := H.out.cell (i := 3) (v := .bool true) (s' := { s with lim := true }) rfl rfl
    exact ⟨rfl, H.out.chg hS (h1.cell (i := 4) (v := .int .i64 n) (s' := { s with lim := true, left := n }) rfl rfl) (((DChg.refl _ _).setCell ((hS _).2 (.inl rfl)) _ _).setCell ((hS _).2 (.inl rfl)) _ _)⟩
end
end Go.Proofs.Ytphjgembpcikdaa
