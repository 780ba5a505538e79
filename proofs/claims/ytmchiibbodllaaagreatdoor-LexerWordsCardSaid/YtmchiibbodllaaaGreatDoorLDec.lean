/- What decimal.abs and Check compute. -/
import Derived.Test.YtmchiibbodllaaaGreatDoorRows
import Derived.Test.YtmchiibbodllaaaGreatDoorBase
import Derived.Test.YtmchiibbodllaaaGreatDoorOrd
import Derived.Test.YtmchiibbodllaaaGreatDoorDMath
import Derived.Handy
namespace Go.Proofs.YtmchiibbodllaaaGreatDoor
set_option linter.unusedVariables false
set_option linter.unnecessarySimpa false
set_option linter.unusedSimpArgs false
open Go.RowKit

theorem ret_v {a b : Value} (h : a = b) : Ending.returned a = .returned b := by rw [h]
set_option maxRecDepth 20000 in set_option maxHeartbeats 400000 in
theorem abs_any (n : Int) (w : World) (hn : IntKind.i64.wrap (-n) = -n) : Calls Tryz.prog 139 #[.int .i64 n] w fun e w' => e = .returned (.int .i64 (max n (-n))) ∧ w = w' := by
  go_enter Tryz.func139, Tryz.ntmps139
  go_wp2
  all_goals
    go_ret
    exact ⟨ret_i (by omega), rfl⟩
set_option maxRecDepth 20000 in set_option maxHeartbeats 400000 in
theorem abs_min (n : Int) (w : World) (hn : IntKind.i64.wrap (-n) = n) : Calls Tryz.prog 139 #[.int .i64 n] w fun e w' => e = .returned (.int .i64 n) ∧ w = w' := by
  go_enter Tryz.func139, Tryz.ntmps139
  go_wp2
  go_ret
  exact ⟨by simp, rfl⟩

/-- Is it a number? -/
def okN (n s : Int) : Bool := decide (-999999999999999 ≤ n) && decide (n ≤ 999999999999999) && decide (0 ≤ s) && decide (s ≤ 12)
theorem okN_iff {n s : Int} : okN n s = true ↔ -999999999999999 ≤ n ∧ n ≤ 999999999999999 ∧ 0 ≤ s ∧ s ≤ 12 := by unfold okN; simp [and_assoc]
def errN (n s : Int) : Int := if okN n s then 0 else 2
theorem errN_ok {n s : Int} (h : okN n s = true) : errN n s = 0 := if_pos h
theorem errN_bad {n s : Int} (h : ¬ okN n s = true) : errN n s = 2 := if_neg h
theorem wf_bd {n : Int} (h : (Lit.int .i64 n).wf = true) : -9223372036854775808 ≤ n ∧ n ≤ 9223372036854775807 := by
  simp [Lit.wf, IntKind.min, IntKind.max, IntKind.signed, IntKind.bits] at h
  omega
theorem wf_of {n : Int} (h : -9223372036854775808 ≤ n) (h' : n ≤ 9223372036854775807) : (Lit.int .i64 n).wf = true := WalkArith.wf_i64 (by omega)
theorem wf_ok {n s : Int} (h : okN n s = true) : (Lit.int .i64 n).wf = true := by
  have := okN_iff.1 h
  exact wf_of (by omega) (by omega)
theorem wrap_min : IntKind.i64.wrap (- -9223372036854775808) = -9223372036854775808 := by decide
theorem neg_in {n : Int} (h : -9223372036854775808 < n) (h' : n ≤ 9223372036854775807) : IntKind.i64.wrap (-n) = -n := IntWalk.i64_in _ (by omega)
/-- What abs gives, as far as it matters. -/
theorem abs_some (n : Int) (hw : (Lit.int .i64 n).wf = true) : ∃ m : Int, (∀ w, Calls Tryz.prog 139 #[.int .i64 n] w fun e w' => e = .returned (.int .i64 m) ∧ w = w') ∧ ((-9223372036854775808 < n ∧ m = max n (-n)) ∨ (n < -999999999999999 ∧ m = n)) := by
  obtain ⟨h0, h1⟩ := wf_bd hw
  by_cases h : n = -9223372036854775808
  · refine ⟨n, fun w => abs_min n w (by rw [h]; exact wrap_min), .inr ⟨by omega, rfl⟩⟩
  · exact ⟨max n (-n), fun w => abs_any n w (neg_in (by omega) h1), .inl ⟨by omega, rfl⟩⟩
set_option maxRecDepth 20000 in set_option maxHeartbeats 400000 in
theorem check1_any (n s : Int) (w : World) (hw : (Lit.int .i64 n).wf = true) : Calls Tryz.prog 137 #[.agg #[.int .i64 n, .int .i64 s]] w fun e w' => e = .returned (.int .i64 (errN n s)) ∧ Below w.heap.size w w' := by
  obtain ⟨m, hm, hc⟩ := abs_some n hw
  have M := Lib.hid hm
  clear hm hw
  by_cases h1 : 999999999999999 < m
  · have hr : Hid (errN n s = 2) := errN_bad (fun h => by have := okN_iff.1 h; omega)
    clear hc
    go_enter Tryz.func137, Tryz.ntmps137
    go_wp2_with (go_at_call 139; refine (M.out _).mono ?_; rintro e w1 ⟨rfl, rfl⟩)
    go_ret
    exact ⟨ret_i hr.out.symm, by repeat (first | with_reducible assumption | with_reducible exact G.refl _ | with_reducible refine G.drew ?_ | with_reducible refine G.drewN ?_ _ | with_reducible refine G.alloc ?_ _ | with_reducible refine Below.setCell ?_ (by first | (simp; done) | (simp; omega)) _ | with_reducible refine G.trans ?_ hb12 | with_reducible refine G.trans ?_ hb11 | with_reducible refine G.trans ?_ hb10 | with_reducible refine G.trans ?_ hb9 | with_reducible refine G.trans ?_ hb8 | with_reducible refine G.trans ?_ hb7 | with_reducible refine G.trans ?_ hb6 | with_reducible refine G.trans ?_ hb5 | with_reducible refine G.trans ?_ hb4 | with_reducible refine G.trans ?_ hb3 | with_reducible refine G.trans ?_ hb2 | with_reducible refine G.trans ?_ hb1 | with_reducible refine G.trans ?_ hb | assumption)⟩
  by_cases h2 : n < -999999999999999
  · have hr : Hid (errN n s = 2) := errN_bad (fun h => by have := okN_iff.1 h; omega)
    clear hc
    go_enter Tryz.func137, Tryz.ntmps137
    go_wp2_with (go_at_call 139; refine (M.out _).mono ?_; rintro e w1 ⟨rfl, rfl⟩)
    go_ret
    exact ⟨ret_i hr.out.symm, by repeat (first | with_reducible assumption | with_reducible exact G.refl _ | with_reducible refine G.drew ?_ | with_reducible refine G.drewN ?_ _ | with_reducible refine G.alloc ?_ _ | with_reducible refine Below.setCell ?_ (by first | (simp; done) | (simp; omega)) _ | with_reducible refine G.trans ?_ hb12 | with_reducible refine G.trans ?_ hb11 | with_reducible refine G.trans ?_ hb10 | with_reducible refine G.trans ?_ hb9 | with_reducible refine G.trans ?_ hb8 | with_reducible refine G.trans ?_ hb7 | with_reducible refine G.trans ?_ hb6 | with_reducible refine G.trans ?_ hb5 | with_reducible refine G.trans ?_ hb4 | with_reducible refine G.trans ?_ hb3 | with_reducible refine G.trans ?_ hb2 | with_reducible refine G.trans ?_ hb1 | with_reducible refine G.trans ?_ hb | assumption)⟩
  have hn : n ≤ 999999999999999 := by omega
  clear hc
  by_cases h3 : s < 0
  · have hr : Hid (errN n s = 2) := errN_bad (fun h => by have := okN_iff.1 h; omega)
    go_enter Tryz.func137, Tryz.ntmps137
    go_wp2_with (go_at_call 139; refine (M.out _).mono ?_; rintro e w1 ⟨rfl, rfl⟩)
    go_ret
    exact ⟨ret_i hr.out.symm, by repeat (first | with_reducible assumption | with_reducible exact G.refl _ | with_reducible refine G.drew ?_ | with_reducible refine G.drewN ?_ _ | with_reducible refine G.alloc ?_ _ | with_reducible refine Below.setCell ?_ (by first | (simp; done) | (simp; omega)) _ | with_reducible refine G.trans ?_ hb12 | with_reducible refine G.trans ?_ hb11 | with_reducible refine G.trans ?_ hb10 | with_reducible refine G.trans ?_ hb9 | with_reducible refine G.trans ?_ hb8 | with_reducible refine G.trans ?_ hb7 | with_reducible refine G.trans ?_ hb6 | with_reducible refine G.trans ?_ hb5 | with_reducible refine G.trans ?_ hb4 | with_reducible refine G.trans ?_ hb3 | with_reducible refine G.trans ?_ hb2 | with_reducible refine G.trans ?_ hb1 | with_reducible refine G.trans ?_ hb | assumption)⟩
  by_cases h4 : 12 < s
  · have hr : Hid (errN n s = 2) := errN_bad (fun h => by have := okN_iff.1 h; omega)
    go_enter Tryz.func137, Tryz.ntmps137
    go_wp2_with (go_at_call 139; refine (M.out _).mono ?_; rintro e w1 ⟨rfl, rfl⟩)
    go_ret
    exact ⟨ret_i hr.out.symm, by repeat (first | with_reducible assumption | with_reducible exact G.refl _ | with_reducible refine G.drew ?_ | with_reducible refine G.drewN ?_ _ | with_reducible refine G.alloc ?_ _ | with_reducible refine Below.setCell ?_ (by first | (simp; done) | (simp; omega)) _ | with_reducible refine G.trans ?_ hb12 | with_reducible refine G.trans ?_ hb11 | with_reducible refine G.trans ?_ hb10 | with_reducible refine G.trans ?_ hb9 | with_reducible refine G.trans ?_ hb8 | with_reducible refine G.trans ?_ hb7 | with_reducible refine G.trans ?_ hb6 | with_reducible refine G.trans ?_ hb5 | with_reducible refine G.trans ?_ hb4 | with_reducible refine G.trans ?_ hb3 | with_reducible refine G.trans ?_ hb2 | with_reducible refine G.trans ?_ hb1 | with_reducible refine G.trans ?_ hb | assumption)⟩
  · have hr : Hid (errN n s = 0) := errN_ok (okN_iff.2 ⟨by omega, by omega, by omega, by omega⟩)
    go_enter Tryz.func137, Tryz.ntmps137
    go_wp2_with (go_at_call 139; refine (M.out _).mono ?_; rintro e w1 ⟨rfl, rfl⟩)
    go_ret
    exact ⟨ret_i hr.out.symm, by repeat (first | with_reducible assumption | with_reducible exact G.refl _ | with_reducible refine G.drew ?_ | with_reducible refine G.drewN ?_ _ | with_reducible refine G.alloc ?_ _ | with_reducible refine Below.setCell ?_ (by first | (simp; done) | (simp; omega)) _ | with_reducible refine G.trans ?_ hb12 | with_reducible refine G.trans ?_ hb11 | with_reducible refine G.trans ?_ hb10 | with_reducible refine G.trans ?_ hb9 | with_reducible refine G.trans ?_ hb8 | with_reducible refine G.trans ?_ hb7 | with_reducible refine G.trans ?_ hb6 | with_reducible refine G.trans ?_ hb5 | with_reducible refine G.trans ?_ hb4 | with_reducible refine G.trans ?_ hb3 | with_reducible refine G.trans ?_ hb2 | with_reducible refine G.trans ?_ hb1 | with_reducible refine G.trans ?_ hb | assumption)⟩

theorem okN_nat {n s : Int} (h : okN n s = true) : ∃ k : Nat, s = k ∧ k ≤ 12 ∧ -999999999999999 ≤ n ∧ n ≤ 999999999999999 := by
  have := okN_iff.1 h
  exact ⟨s.toNat, by omega, by omega, by omega, by omega⟩
def RetN (n s err : Int) (w : World) (e : Ending) (w' : World) : Prop := e = .returned (.tuple #[.agg #[.int .i64 n, .int .i64 s], .int .i64 err]) ∧ Below w.heap.size w w'
/-- What fit gives. -/
def fitN (n s : Int) : Int × Int × Int := if -999999999999999 ≤ n ∧ n ≤ 999999999999999 then (n, s, 0) else (0, 0, 14)
def RetF (p : Int × Int × Int) (w : World) (e : Ending) (w' : World) : Prop := RetN p.1 p.2.1 p.2.2 w e w'
def Box2 (w : World) (B : Nat) (u v : Value) : Prop := w.cell? ⟨B, 0, none⟩ = some u ∧ w.cell? ⟨B, 1, none⟩ = some v ∧ w.frozen? ⟨B, 0, none⟩ = false ∧ w.frozen? ⟨B, 1, none⟩ = false
theorem Box2.keep {w w' : World} {B N : Nat} {u v : Value} (h : Box2 w B u v) (hb : Below N w w') (hB : B < N) : Box2 w' B u v :=
  ⟨(hb.cell (p := ⟨B, 0, none⟩) hB).trans h.1, (hb.cell (p := ⟨B, 1, none⟩) hB).trans h.2.1, (hb.frozen (p := ⟨B, 0, none⟩) hB).trans h.2.2.1, (hb.frozen (p := ⟨B, 1, none⟩) hB).trans h.2.2.2⟩
theorem Box2.lt {w : World} {B : Nat} {u v : Value} (h : Box2 w B u v) : B < w.heap.size := cell_lt h.1
theorem Box2.grow {w w' : World} {B : Nat} {u v : Value} (h : Box2 w B u v) (hb : Below w.heap.size w w') : Box2 w' B u v := h.keep hb h.lt
theorem Box2.set1 {w : World} {B : Nat} {u v x : Value} (h : Box2 w B u v) : Box2 (w.setCell ⟨B, 1, none⟩ x) B u x := by
  obtain ⟨h1, h2, h3, h4⟩ := h
  exact ⟨by go_simp, by go_simp, by go_simp, by go_simp⟩
theorem Box2.other {w : World} {B B' i : Nat} {u v x : Value} (h : Box2 w B u v) (hne : B ≠ B') : Box2 (w.setCell ⟨B', i, none⟩ x) B u v := by
  obtain ⟨h1, h2, h3, h4⟩ := h
  refine ⟨?_, ?_, ?_, ?_⟩
  · rw [World.cell?_setCell_other _ _ _ _ (fun e => hne (by injection e with e; exact e.symm))]; exact h1
  · rw [World.cell?_setCell_other _ _ _ _ (fun e => hne (by injection e with e; exact e.symm))]; exact h2
  · go_simp
  · go_simp
theorem Box2.alloc {w : World} {B : Nat} {u v : Value} (h : Box2 w B u v) (o : Obj) : Box2 (w.alloc o) B u v := h.grow (G.alloc (G.refl w) o)
theorem Box2.new {w : World} {B : Nat} {u v : Value} {t : TypeId} (hB : B = w.heap.size) : Box2 (w.alloc (.cells #[u, v] t)) B u v := by
  subst hB
  exact ⟨by go_simp, by go_simp, by go_simp, by go_simp⟩
end Go.Proofs.YtmchiibbodllaaaGreatDoor
