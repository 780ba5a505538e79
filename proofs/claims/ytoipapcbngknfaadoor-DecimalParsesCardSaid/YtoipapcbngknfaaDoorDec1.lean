/- What decimal.abs, powers, ten, Check, check, fit and parts compute. -/
import Derived.Test.YtoipapcbngknfaaDoorRows
import Derived.Test.YtoipapcbngknfaaDoorBase
import Derived.Test.YtoipapcbngknfaaDoorOrd
import Derived.Test.YtoipapcbngknfaaDoorDMath
import Derived.Handy
namespace Go.Proofs.YtoipapcbngknfaaDoor
set_option linter.unusedVariables false
set_option linter.unnecessarySimpa false
set_option linter.unusedSimpArgs false
open Go.RowKit

theorem ret_v {a b : Value} (h : a = b) : Ending.returned a = .returned b := by rw [h]
set_option maxRecDepth 20000 in set_option maxHeartbeats 400000 in
theorem abs_any (n : Int) (w : World) (hn : IntKind.i64.wrap (-n) = -n) : Calls Tryd.prog 50 #[.int .i64 n] w fun e w' => e = .returned (.int .i64 (max n (-n))) ∧ w = w' := by
  go_enter Tryd.func50, Tryd.ntmps50
  go_wp2
  all_goals
    go_ret
    exact ⟨ret_i (by omega), rfl⟩
set_option maxRecDepth 20000 in set_option maxHeartbeats 400000 in
theorem abs_min (n : Int) (w : World) (hn : IntKind.i64.wrap (-n) = n) : Calls Tryd.prog 50 #[.int .i64 n] w fun e w' => e = .returned (.int .i64 n) ∧ w = w' := by
  go_enter Tryd.func50, Tryd.ntmps50
  go_wp2
  go_ret
  exact ⟨by simp, rfl⟩

def powA : Array Value := #[.int .i64 1, .int .i64 10, .int .i64 100, .int .i64 1000, .int .i64 10000, .int .i64 100000, .int .i64 1000000, .int .i64 10000000, .int .i64 100000000, .int .i64 1000000000, .int .i64 10000000000, .int .i64 100000000000, .int .i64 1000000000000]
set_option maxRecDepth 20000 in set_option maxHeartbeats 400000 in
theorem powers_any (w : World) : Calls Tryd.prog 71 #[] w fun e w' => e = .returned (.agg powA) ∧ Below w.heap.size w w' := by
  go_enter Tryd.func71, Tryd.ntmps71
  go_wp2
  go_rounds 13
  exact bodyPost_ret (v := .agg powA) (by simp only [results, Tryd.results71]; go_simp; rfl) rfl ⟨rfl, by repeat (first | with_reducible assumption | with_reducible exact G.refl _ | with_reducible refine G.drew ?_ | with_reducible refine G.drewN ?_ _ | with_reducible refine G.alloc ?_ _ | with_reducible refine Below.setCell ?_ (by first | (simp; done) | (simp; omega)) _ | with_reducible refine G.trans ?_ hb12 | with_reducible refine G.trans ?_ hb11 | with_reducible refine G.trans ?_ hb10 | with_reducible refine G.trans ?_ hb9 | with_reducible refine G.trans ?_ hb8 | with_reducible refine G.trans ?_ hb7 | with_reducible refine G.trans ?_ hb6 | with_reducible refine G.trans ?_ hb5 | with_reducible refine G.trans ?_ hb4 | with_reducible refine G.trans ?_ hb3 | with_reducible refine G.trans ?_ hb2 | with_reducible refine G.trans ?_ hb1 | with_reducible refine G.trans ?_ hb | assumption)⟩
theorem index_pow_0 : ∀ w : World, (Instr.index 89 (.agg powA) (.int .i64 0)).run Tryd.prog w = .ok (.int .i64 1) w := fun _ => by kernel_rfl
theorem index_pow_1 : ∀ w : World, (Instr.index 89 (.agg powA) (.int .i64 1)).run Tryd.prog w = .ok (.int .i64 10) w := fun _ => by kernel_rfl
theorem index_pow_2 : ∀ w : World, (Instr.index 89 (.agg powA) (.int .i64 2)).run Tryd.prog w = .ok (.int .i64 100) w := fun _ => by kernel_rfl
theorem index_pow_3 : ∀ w : World, (Instr.index 89 (.agg powA) (.int .i64 3)).run Tryd.prog w = .ok (.int .i64 1000) w := fun _ => by kernel_rfl
theorem index_pow_4 : ∀ w : World, (Instr.index 89 (.agg powA) (.int .i64 4)).run Tryd.prog w = .ok (.int .i64 10000) w := fun _ => by kernel_rfl
theorem index_pow_5 : ∀ w : World, (Instr.index 89 (.agg powA) (.int .i64 5)).run Tryd.prog w = .ok (.int .i64 100000) w := fun _ => by kernel_rfl
theorem index_pow_6 : ∀ w : World, (Instr.index 89 (.agg powA) (.int .i64 6)).run Tryd.prog w = .ok (.int .i64 1000000) w := fun _ => by kernel_rfl
theorem index_pow_7 : ∀ w : World, (Instr.index 89 (.agg powA) (.int .i64 7)).run Tryd.prog w = .ok (.int .i64 10000000) w := fun _ => by kernel_rfl
theorem index_pow_8 : ∀ w : World, (Instr.index 89 (.agg powA) (.int .i64 8)).run Tryd.prog w = .ok (.int .i64 100000000) w := fun _ => by kernel_rfl
theorem index_pow_9 : ∀ w : World, (Instr.index 89 (.agg powA) (.int .i64 9)).run Tryd.prog w = .ok (.int .i64 1000000000) w := fun _ => by kernel_rfl
theorem index_pow_10 : ∀ w : World, (Instr.index 89 (.agg powA) (.int .i64 10)).run Tryd.prog w = .ok (.int .i64 10000000000) w := fun _ => by kernel_rfl
theorem index_pow_11 : ∀ w : World, (Instr.index 89 (.agg powA) (.int .i64 11)).run Tryd.prog w = .ok (.int .i64 100000000000) w := fun _ => by kernel_rfl
theorem index_pow_12 : ∀ w : World, (Instr.index 89 (.agg powA) (.int .i64 12)).run Tryd.prog w = .ok (.int .i64 1000000000000) w := fun _ => by kernel_rfl
theorem index_pow {k : Nat} (hk : k ≤ 12) : ∀ w : World, (Instr.index 89 (.agg powA) (.int .i64 (k : Int))).run Tryd.prog w = .ok (.int .i64 (p10 k)) w := by
  have : k = 0 ∨ k = 1 ∨ k = 2 ∨ k = 3 ∨ k = 4 ∨ k = 5 ∨ k = 6 ∨ k = 7 ∨ k = 8 ∨ k = 9 ∨ k = 10 ∨ k = 11 ∨ k = 12 := by omega
  rcases this with rfl | rfl | rfl | rfl | rfl | rfl | rfl | rfl | rfl | rfl | rfl | rfl | rfl
  · intro w; rw [show p10 0 = 1 by decide]; exact index_pow_0 w
  · intro w; rw [show p10 1 = 10 by decide]; exact index_pow_1 w
  · intro w; rw [show p10 2 = 100 by decide]; exact index_pow_2 w
  · intro w; rw [show p10 3 = 1000 by decide]; exact index_pow_3 w
  · intro w; rw [show p10 4 = 10000 by decide]; exact index_pow_4 w
  · intro w; rw [show p10 5 = 100000 by decide]; exact index_pow_5 w
  · intro w; rw [show p10 6 = 1000000 by decide]; exact index_pow_6 w
  · intro w; rw [show p10 7 = 10000000 by decide]; exact index_pow_7 w
  · intro w; rw [show p10 8 = 100000000 by decide]; exact index_pow_8 w
  · intro w; rw [show p10 9 = 1000000000 by decide]; exact index_pow_9 w
  · intro w; rw [show p10 10 = 10000000000 by decide]; exact index_pow_10 w
  · intro w; rw [show p10 11 = 100000000000 by decide]; exact index_pow_11 w
  · intro w; rw [show p10 12 = 1000000000000 by decide]; exact index_pow_12 w
set_option maxRecDepth 20000 in set_option maxHeartbeats 400000 in
theorem ten_any (k : Nat) (w : World) (hk : k ≤ 12) : Calls Tryd.prog 59 #[.int .i64 (k : Int)] w fun e w' => e = .returned (.int .i64 (p10 k)) ∧ Below w.heap.size w w' := by
  have hix := index_pow hk
  clear hk
  go_enter Tryd.func59, Tryd.ntmps59
  go_wp2_with (go_at_call 71; refine (powers_any _).mono ?_; rintro e w1 ⟨rfl, hb⟩)
  go_ret
  exact ⟨rfl, hb⟩

/-- Is it a number? -/
def okN (n s : Int) : Bool := decide (-999999999999999 ≤ n) && decide (n ≤ 999999999999999) && decide (0 ≤ s) && decide (s ≤ 12)
theorem okN_iff {n s : Int} : okN n s = true ↔ -999999999999999 ≤ n ∧ n ≤ 999999999999999 ∧ 0 ≤ s ∧ s ≤ 12 := by unfold okN; simp [and_assoc]
def errN (n s : Int) : Int := if okN n s then 0 else 2
theorem errN_ok {n s : Int} (h : okN n s = true) : errN n s = 0 := if_pos h
theorem errN_bad {n s : Int} (h : ¬ okN n s = true) : errN n s = 2 := if_neg h
theorem wf_bd {n : Int} (h : (Lit.int .i64 n).wf = true) : -9223372036854775808 ≤ n ∧ n ≤ 9223372036854775807 := by
  simp [Lit.wf, IntKind.min, IntKind.max, IntKind.signed, IntKind.bits] at h
  omega
theorem wf_of {n : Int} (h : -9223372036854775808 ≤ n) (h' : n ≤ 9223372036854775807) : (Lit.int .i64 n).wf = true := WalkArith.wf_i64 (by omega)
theorem wf_ok {n s : Int} (h : okN n s = true) : (Lit.int .i64 n).wf = true := by
  have := okN_iff.1 h
  exact wf_of (by omega) (by omega)
theorem wrap_min : IntKind.i64.wrap (- -9223372036854775808) = -9223372036854775808 := by decide
theorem neg_in {n : Int} (h : -9223372036854775808 < n) (h' : n ≤ 9223372036854775807) : IntKind.i64.wrap (-n) = -n := IntWalk.i64_in _ (by omega)
/-- What abs gives, as far as it matters. -/
theorem abs_some (n : Int) (hw : (Lit.int .i64 n).wf = true) : ∃ m : Int, (∀ w, Calls Tryd.prog 50 #[.int .i64 n] w fun e w' => e = .returned (.int .i64 m) ∧ w = w') ∧ ((-9223372036854775808 < n ∧ m = max n (-n)) ∨ (n < -999999999999999 ∧ m = n)) := by
  obtain ⟨h0, h1⟩ := wf_bd hw
  by_cases h : n = -9223372036854775808
  · refine ⟨n, fun w => abs_min n w (by rw [h]; exact wrap_min), .inr ⟨by omega, rfl⟩⟩
  · exact ⟨max n (-n), fun w => abs_any n w (neg_in (by omega) h1), .inl ⟨by omega, rfl⟩⟩
set_option maxRecDepth 20000 in set_option maxHeartbeats 400000 in
theorem check1_any (n s : Int) (w : World) (hw : (Lit.int .i64 n).wf = true) : Calls Tryd.prog 34 #[.agg #[.int .i64 n, .int .i64 s]] w fun e w' => e = .returned (.int .i64 (errN n s)) ∧ Below w.heap.size w w' := by
  obtain ⟨m, hm, hc⟩ := abs_some n hw
  have M := Lib.hid hm
  clear hm hw
  by_cases h1 : 999999999999999 < m
  · have hr : Hid (errN n s = 2) := errN_bad (fun h => by have := okN_iff.1 h; omega)
    clear hc
    go_enter Tryd.func34, Tryd.ntmps34
    go_wp2_with (go_at_call 50; refine (M.out _).mono ?_; rintro e w1 ⟨rfl, rfl⟩)
    go_ret
    exact ⟨ret_i hr.out.symm, by repeat (first | with_reducible assumption | with_reducible exact G.refl _ | with_reducible refine G.drew ?_ | with_reducible refine G.drewN ?_ _ | with_reducible refine G.alloc ?_ _ | with_reducible refine Below.setCell ?_ (by first | (simp; done) | (simp; omega)) _ | with_reducible refine G.trans ?_ hb12 | with_reducible refine G.trans ?_ hb11 | with_reducible refine G.trans ?_ hb10 | with_reducible refine G.trans ?_ hb9 | with_reducible refine G.trans ?_ hb8 | with_reducible refine G.trans ?_ hb7 | with_reducible refine G.trans ?_ hb6 | with_reducible refine G.trans ?_ hb5 | with_reducible refine G.trans ?_ hb4 | with_reducible refine G.trans ?_ hb3 | with_reducible refine G.trans ?_ hb2 | with_reducible refine G.trans ?_ hb1 | with_reducible refine G.trans ?_ hb | assumption)⟩
  by_cases h2 : n < -999999999999999
  · have hr : Hid (errN n s = 2) := errN_bad (fun h => by have := okN_iff.1 h; omega)
    clear hc
    go_enter Tryd.func34, Tryd.ntmps34
    go_wp2_with (go_at_call 50; refine (M.out _).mono ?_; rintro e w1 ⟨rfl, rfl⟩)
    go_ret
    exact ⟨ret_i hr.out.symm, by repeat (first | with_reducible assumption | with_reducible exact G.refl _ | with_reducible refine G.drew ?_ | with_reducible refine G.drewN ?_ _ | with_reducible refine G.alloc ?_ _ | with_reducible refine Below.setCell ?_ (by first | (simp; done) | (simp; omega)) _ | with_reducible refine G.trans ?_ hb12 | with_reducible refine G.trans ?_ hb11 | with_reducible refine G.trans ?_ hb10 | with_reducible refine G.trans ?_ hb9 | with_reducible refine G.trans ?_ hb8 | with_reducible refine G.trans ?_ hb7 | with_reducible refine G.trans ?_ hb6 | with_reducible refine G.trans ?_ hb5 | with_reducible refine G.trans ?_ hb4 | with_reducible refine G.trans ?_ hb3 | with_reducible refine G.trans ?_ hb2 | with_reducible refine G.trans ?_ hb1 | with_reducible refine G.trans ?_ hb | assumption)⟩
  have hn : n ≤ 999999999999999 := by omega
  clear hc
  by_cases h3 : s < 0
  · have hr : Hid (errN n s = 2) := errN_bad (fun h => by have := okN_iff.1 h; omega)
    go_enter Tryd.func34, Tryd.ntmps34
    go_wp2_with (go_at_call 50; refine (M.out _).mono ?_; rintro e w1 ⟨rfl, rfl⟩)
    go_ret
    exact ⟨ret_i hr.out.symm, by repeat (first | with_reducible assumption | with_reducible exact G.refl _ | with_reducible refine G.drew ?_ | with_reducible refine G.drewN ?_ _ | with_reducible refine G.alloc ?_ _ | with_reducible refine Below.setCell ?_ (by first | (simp; done) | (simp; omega)) _ | with_reducible refine G.trans ?_ hb12 | with_reducible refine G.trans ?_ hb11 | with_reducible refine G.trans ?_ hb10 | with_reducible refine G.trans ?_ hb9 | with_reducible refine G.trans ?_ hb8 | with_reducible refine G.trans ?_ hb7 | with_reducible refine G.trans ?_ hb6 | with_reducible refine G.trans ?_ hb5 | with_reducible refine G.trans ?_ hb4 | with_reducible refine G.trans ?_ hb3 | with_reducible refine G.trans ?_ hb2 | with_reducible refine G.trans ?_ hb1 | with_reducible refine G.trans ?_ hb | assumption)⟩
  by_cases h4 : 12 < s
  · have hr : Hid (errN n s = 2) := errN_bad (fun h => by have := okN_iff.1 h; omega)
    go_enter Tryd.func34, Tryd.ntmps34
    go_wp2_with (go_at_call 50; refine (M.out _).mono ?_; rintro e w1 ⟨rfl, rfl⟩)
    go_ret
    exact ⟨ret_i hr.out.symm, by repeat (first | with_reducible assumption | with_reducible exact G.refl _ | with_reducible refine G.drew ?_ | with_reducible refine G.drewN ?_ _ | with_reducible refine G.alloc ?_ _ | with_reducible refine Below.setCell ?_ (by first | (simp; done) | (simp; omega)) _ | with_reducible refine G.trans ?_ hb12 | with_reducible refine G.trans ?_ hb11 | with_reducible refine G.trans ?_ hb10 | with_reducible refine G.trans ?_ hb9 | with_reducible refine G.trans ?_ hb8 | with_reducible refine G.trans ?_ hb7 | with_reducible refine G.trans ?_ hb6 | with_reducible refine G.trans ?_ hb5 | with_reducible refine G.trans ?_ hb4 | with_reducible refine G.trans ?_ hb3 | with_reducible refine G.trans ?_ hb2 | with_reducible refine G.trans ?_ hb1 | with_reducible refine G.trans ?_ hb | assumption)⟩
  · have hr : Hid (errN n s = 0) := errN_ok (okN_iff.2 ⟨by omega, by omega, by omega, by omega⟩)
    go_enter Tryd.func34, Tryd.ntmps34
    go_wp2_with (go_at_call 50; refine (M.out _).mono ?_; rintro e w1 ⟨rfl, rfl⟩)
    go_ret
    exact ⟨ret_i hr.out.symm, by repeat (first | with_reducible assumption | with_reducible exact G.refl _ | with_reducible refine G.drew ?_ | with_reducible refine G.drewN ?_ _ | with_reducible refine G.alloc ?_ _ | with_reducible refine Below.setCell ?_ (by first | (simp; done) | (simp; omega)) _ | with_reducible refine G.trans ?_ hb12 | with_reducible refine G.trans ?_ hb11 | with_reducible refine G.trans ?_ hb10 | with_reducible refine G.trans ?_ hb9 | with_reducible refine G.trans ?_ hb8 | with_reducible refine G.trans ?_ hb7 | with_reducible refine G.trans ?_ hb6 | with_reducible refine G.trans ?_ hb5 | with_reducible refine G.trans ?_ hb4 | with_reducible refine G.trans ?_ hb3 | with_reducible refine G.trans ?_ hb2 | with_reducible refine G.trans ?_ hb1 | with_reducible refine G.trans ?_ hb | assumption)⟩

/-- Numbers as cells. -/
def numCells : List (Int × Int) → List Value
  | [] => []
  | p :: L => .int .i64 p.1 :: .int .i64 p.2 :: numCells L
theorem numCells_len (L : List (Int × Int)) : (numCells L).length = L.length * 2 := by
  induction L with
  | nil => rfl
  | cons p L ih => simp only [numCells, List.length_cons, ih]; omega
theorem numCells_at {L : List (Int × Int)} {k : Nat} {p : Int × Int} (h : L[k]? = some p) : (numCells L)[k * 2]? = some (.int .i64 p.1) ∧ (numCells L)[k * 2 + 1]? = some (.int .i64 p.2) := by
  induction L generalizing k with
  | nil => cases h
  | cons q L ih =>
    cases k with
    | zero =>
      simp only [List.getElem?_cons_zero, Option.some.injEq] at h
      subst h
      exact ⟨rfl, rfl⟩
    | succ k =>
      simp only [List.getElem?_cons_succ] at h
      have := ih h
      rw [show (k + 1) * 2 = k * 2 + 1 + 1 by omega]
      simpa [numCells] using this
/-- The slice holds the numbers L. -/
def NumsAt (w : World) (A : Option Addr) (n : Nat) (L : List (Int × Int)) : Prop := Sl w A (n * 2) (numCells L) ∧ L.length = n
theorem NumsAt.grow {w w' : World} {A : Option Addr} {n : Nat} {L : List (Int × Int)} (h : NumsAt w A n L) (hb : Below w.heap.size w w') : NumsAt w' A n L := ⟨h.1.grow hb, h.2⟩
theorem NumsAt.at_ {w : World} {A : Option Addr} {n : Nat} {L : List (Int × Int)} (h : NumsAt w A n L) {k : Nat} (hk : k < n) :
    ∃ b off x s, A = some ⟨b, off, none⟩ ∧ b < w.heap.size ∧ L[k]? = some (x, s) ∧ w.cell? ⟨b, off + k * 2, none⟩ = some (.int .i64 x) ∧ w.cell? ⟨b, off + k * 2 + 1, none⟩ = some (.int .i64 s) := by
  obtain ⟨b, off, e, hb, hc⟩ := h.1.2 (by omega)
  have hl : k < L.length := by rw [h.2]; exact hk
  have hp := List.getElem?_eq_getElem hl
  obtain ⟨h1, h2⟩ := numCells_at hp
  exact ⟨b, off, L[k].1, L[k].2, e, hb, hp, hc _ _ h1, by have := hc _ _ h2; rwa [← Nat.add_assoc] at this⟩
def errL (L : List (Int × Int)) : Int := if L.all (fun p => okN p.1 p.2) then 0 else 2
set_option maxRecDepth 20000 in set_option maxHeartbeats 400000 in
theorem checkL_any (A : Option Addr) (n c : Nat) (L : List (Int × Int)) (w : World) (hx : NumsAt w A n L) (hn : n ≤ maxLen) (hw : ∀ p ∈ L, (Lit.int .i64 p.1).wf = true) :
    Calls Tryd.prog 41 #[.slice A n c] w fun e w' => e = .returned (.int .i64 (errL L)) ∧ Below w.heap.size w w' := by
  unfold maxLen at hn
  have hl := Lib.hid hx.2
  have hw' := Lib.hid hw
  clear hw
  go_enter Tryd.func41, Tryd.ntmps41
  go_wp2
  go_loopw [8] (fun i wr => ∃ k : Nat, k ≤ n ∧ i = .int .i64 k ∧ Hid ((L.take k).all (fun p => okN p.1 p.2) = true) ∧ Below w.heap.size w wr) (fun i _ => n - (intOf i).toNat)
  case atStart => exact ⟨0, Nat.zero_le _, rfl, rfl, G.refl _⟩
  case round =>
    obtain ⟨k, hk, rfl, hc, hbr⟩ := hrel
    by_cases hlt : k < n
    · obtain ⟨b, off, x, s, rfl, hbx, hxk, hc1, hc2⟩ := (hx.grow hbr).at_ hlt
      have hwx : (Lit.int .i64 x).wf = true := hw'.out (x, s) (List.mem_of_getElem? hxk)
      have hkk : Hid ((L.take (k + 1)).all (fun p => okN p.1 p.2) = okN x s) := by
        unfold Hid
        rw [List.take_add_one, hxk, List.all_append, hc.out]
        simp
      have C := Lib.hid (fun w => check1_any x s w hwx)
      by_cases ho : okN x s = true
      · rw [errN_ok ho] at C
        have hkk' : Hid ((L.take (k + 1)).all (fun p => okN p.1 p.2) = true) := hkk.out.trans ho
        clear ho hkk hwx hxk
        go_wp2_with (go_at_call 34; refine (C.out _).mono ?_; rintro e w2 ⟨rfl, hb2⟩)
        go_roundw
        case rel => exact ⟨k + 1, by omega, by go_num, hkk', by repeat (first | with_reducible assumption | with_reducible exact G.refl _ | with_reducible refine G.drew ?_ | with_reducible refine G.drewN ?_ _ | with_reducible refine G.alloc ?_ _ | with_reducible refine Below.setCell ?_ (by first | (simp; done) | (simp; omega)) _ | with_reducible refine G.trans ?_ hb12 | with_reducible refine G.trans ?_ hb11 | with_reducible refine G.trans ?_ hb10 | with_reducible refine G.trans ?_ hb9 | with_reducible refine G.trans ?_ hb8 | with_reducible refine G.trans ?_ hb7 | with_reducible refine G.trans ?_ hb6 | with_reducible refine G.trans ?_ hb5 | with_reducible refine G.trans ?_ hb4 | with_reducible refine G.trans ?_ hb3 | with_reducible refine G.trans ?_ hb2 | with_reducible refine G.trans ?_ hb1 | with_reducible refine G.trans ?_ hb | assumption)⟩
        case measure => simp [intOf]; omega
      · rw [errN_bad ho] at C
        have hr : Hid (errL L = 2) := by
          unfold Hid errL
          rw [if_neg]
          intro h
          exact ho (List.all_eq_true.1 h (x, s) (List.mem_of_getElem? hxk))
        clear ho hkk hwx hxk
        go_wp2_with (go_at_call 34; refine (C.out _).mono ?_; rintro e w2 ⟨rfl, hb2⟩)
        go_ret
        exact ⟨ret_i hr.out.symm, by repeat (first | with_reducible assumption | with_reducible exact G.refl _ | with_reducible refine G.drew ?_ | with_reducible refine G.drewN ?_ _ | with_reducible refine G.alloc ?_ _ | with_reducible refine Below.setCell ?_ (by first | (simp; done) | (simp; omega)) _ | with_reducible refine G.trans ?_ hb12 | with_reducible refine G.trans ?_ hb11 | with_reducible refine G.trans ?_ hb10 | with_reducible refine G.trans ?_ hb9 | with_reducible refine G.trans ?_ hb8 | with_reducible refine G.trans ?_ hb7 | with_reducible refine G.trans ?_ hb6 | with_reducible refine G.trans ?_ hb5 | with_reducible refine G.trans ?_ hb4 | with_reducible refine G.trans ?_ hb3 | with_reducible refine G.trans ?_ hb2 | with_reducible refine G.trans ?_ hb1 | with_reducible refine G.trans ?_ hb | assumption)⟩
    · have hr : Hid (errL L = 0) := by
        unfold Hid errL
        rw [if_pos]
        have := hc.out
        rwa [List.take_of_length_le (by have := hl.out; omega)] at this
      go_wp2
      go_ret
      exact ⟨ret_i hr.out.symm, by repeat (first | with_reducible assumption | with_reducible exact G.refl _ | with_reducible refine G.drew ?_ | with_reducible refine G.drewN ?_ _ | with_reducible refine G.alloc ?_ _ | with_reducible refine Below.setCell ?_ (by first | (simp; done) | (simp; omega)) _ | with_reducible refine G.trans ?_ hb12 | with_reducible refine G.trans ?_ hb11 | with_reducible refine G.trans ?_ hb10 | with_reducible refine G.trans ?_ hb9 | with_reducible refine G.trans ?_ hb8 | with_reducible refine G.trans ?_ hb7 | with_reducible refine G.trans ?_ hb6 | with_reducible refine G.trans ?_ hb5 | with_reducible refine G.trans ?_ hb4 | with_reducible refine G.trans ?_ hb3 | with_reducible refine G.trans ?_ hb2 | with_reducible refine G.trans ?_ hb1 | with_reducible refine G.trans ?_ hb | assumption)⟩

/-- The call gives a number and an error. -/
def RetN (n s err : Int) (w : World) (e : Ending) (w' : World) : Prop := e = .returned (.tuple #[.agg #[.int .i64 n, .int .i64 s], .int .i64 err]) ∧ Below w.heap.size w w'
/-- What fit gives. -/
def fitN (n s : Int) : Int × Int × Int := if -999999999999999 ≤ n ∧ n ≤ 999999999999999 then (n, s, 0) else (0, 0, 14)
def RetF (p : Int × Int × Int) (w : World) (e : Ending) (w' : World) : Prop := RetN p.1 p.2.1 p.2.2 w e w'
set_option maxRecDepth 20000 in set_option maxHeartbeats 400000 in
theorem fit_any (n s : Int) (w : World) (hn : -9223372036854775808 < n) (hn' : n ≤ 9223372036854775807) : Calls Tryd.prog 43 #[.int .i64 n, .int .i64 s] w (RetF (fitN n s) w) := by
  have A := fun w => abs_any n w (neg_in hn hn')
  generalize hm : max n (-n) = m at A
  have A' := Lib.hid A
  clear A hn hn'
  by_cases h : -999999999999999 ≤ n ∧ n ≤ 999999999999999
  · have hr : Hid (fitN n s = (n, s, 0)) := if_pos h
    have hm1 : ¬ 999999999999999 < m := by omega
    clear hm h
    go_enter Tryd.func43, Tryd.ntmps43
    go_wp2_with (go_at_call 50; refine (A'.out _).mono ?_; rintro e w1 ⟨rfl, rfl⟩)
    exact bodyPost_ret (v := .tuple #[.agg #[.int .i64 n, .int .i64 s], .int .i64 0]) (by simp only [results, Tryd.results43]; go_simp) rfl ⟨by rw [hr.out], by repeat (first | with_reducible assumption | with_reducible exact G.refl _ | with_reducible refine G.drew ?_ | with_reducible refine G.drewN ?_ _ | with_reducible refine G.alloc ?_ _ | with_reducible refine Below.setCell ?_ (by first | (simp; done) | (simp; omega)) _ | with_reducible refine G.trans ?_ hb12 | with_reducible refine G.trans ?_ hb11 | with_reducible refine G.trans ?_ hb10 | with_reducible refine G.trans ?_ hb9 | with_reducible refine G.trans ?_ hb8 | with_reducible refine G.trans ?_ hb7 | with_reducible refine G.trans ?_ hb6 | with_reducible refine G.trans ?_ hb5 | with_reducible refine G.trans ?_ hb4 | with_reducible refine G.trans ?_ hb3 | with_reducible refine G.trans ?_ hb2 | with_reducible refine G.trans ?_ hb1 | with_reducible refine G.trans ?_ hb | assumption)⟩
  · have hr : Hid (fitN n s = (0, 0, 14)) := if_neg h
    have hm1 : 999999999999999 < m := by omega
    clear hm h
    go_enter Tryd.func43, Tryd.ntmps43
    go_wp2_with (go_at_call 50; refine (A'.out _).mono ?_; rintro e w1 ⟨rfl, rfl⟩)
    exact bodyPost_ret (v := .tuple #[.agg #[.int .i64 0, .int .i64 0], .int .i64 14]) (by simp only [results, Tryd.results43]; go_simp) rfl ⟨by rw [hr.out], by repeat (first | with_reducible assumption | with_reducible exact G.refl _ | with_reducible refine G.drew ?_ | with_reducible refine G.drewN ?_ _ | with_reducible refine G.alloc ?_ _ | with_reducible refine Below.setCell ?_ (by first | (simp; done) | (simp; omega)) _ | with_reducible refine G.trans ?_ hb12 | with_reducible refine G.trans ?_ hb11 | with_reducible refine G.trans ?_ hb10 | with_reducible refine G.trans ?_ hb9 | with_reducible refine G.trans ?_ hb8 | with_reducible refine G.trans ?_ hb7 | with_reducible refine G.trans ?_ hb6 | with_reducible refine G.trans ?_ hb5 | with_reducible refine G.trans ?_ hb4 | with_reducible refine G.trans ?_ hb3 | with_reducible refine G.trans ?_ hb2 | with_reducible refine G.trans ?_ hb1 | with_reducible refine G.trans ?_ hb | assumption)⟩
end Go.Proofs.YtoipapcbngknfaaDoor
