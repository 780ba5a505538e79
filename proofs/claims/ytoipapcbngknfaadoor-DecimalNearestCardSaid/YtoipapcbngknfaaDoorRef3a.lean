/- What the reference's Plus computes. -/
import Derived.Test.YtoipapcbngknfaaDoorRef2
namespace Go.Proofs.YtoipapcbngknfaaDoor
set_option linter.unusedVariables false
set_option linter.unnecessarySimpa false
set_option linter.unusedSimpArgs false
open Go.RowKit

theorem plus_step {L xs ys : List Int} {k : Nat} {st cy cy' e : Int} (hL : L.length = k) (h : valD L + p10 k * cy = valD (xs.take k) + st * valD (ys.take k)) (he : e + 10 * cy' = dg xs k + st * dg ys k + cy) :
    valD (L ++ [e]) + p10 (k + 1) * cy' = valD (xs.take (k + 1)) + st * valD (ys.take (k + 1)) := by
  rw [valD_take xs k, valD_take ys k, valD_app, hL, p10_succ]
  simp only [valD, Int.mul_zero, Int.add_zero]
  have h1 : p10 k * (e + 10 * cy') = p10 k * (dg xs k + st * dg ys k + cy) := by rw [he]
  rw [Int.mul_add, Int.mul_add, Int.mul_add] at h1
  have h2 : p10 k * (10 * cy') = 10 * p10 k * cy' := by rw [← Int.mul_assoc, Int.mul_comm (p10 k) 10]
  have h3 : p10 k * (st * dg ys k) = st * (p10 k * dg ys k) := by rw [← Int.mul_assoc, Int.mul_comm (p10 k) st, Int.mul_assoc]
  rw [Int.mul_add]
  omega
theorem plus_end {L : List Int} {k : Nat} {cy V : Int} (hd : Dig L) (hL : L.length = k) (hV : valD L + p10 k * cy = V) (h0 : 0 ≤ V) (h1 : V < p10 k) (hc : -1 ≤ cy ∧ cy ≤ 1) : valD L = V := by
  have h2 := valD_nonneg hd
  have h3 := valD_lt hd
  rw [hL] at h3
  have h4 := p10_pos k
  have : cy = -1 ∨ cy = 0 ∨ cy = 1 := by omega
  rcases this with rfl | rfl | rfl <;> omega
theorem sgn_mul {s V : Int} (hs : s = 1 ∨ s = -1) (h0 : 0 ≤ V) : (if V = 0 then 0 else s) = sgn (s * V) ∧ V.toNat = (s * V).natAbs := by
  unfold sgn
  rcases hs with rfl | rfl
  · rw [Int.one_mul]
    refine ⟨?_, by omega⟩
    (repeat' split) <;> omega
  · rw [Int.neg_mul, Int.one_mul]
    refine ⟨?_, by omega⟩
    (repeat' split) <;> omega
set_option maxRecDepth 20000 in set_option maxHeartbeats 400000 in
theorem plus_l0 (t : Int) (A B : Option Addr) (n m c d : Nat) (w : World) :
    Calls Tryd.prog 19 #[.agg #[.int .i64 0, .slice A n c], .agg #[.int .i64 t, .slice B m d]] w fun e w' => e = .returned (.agg #[.int .i64 t, .slice B m d]) ∧ Below w.heap.size w w' := by
  go_enter Tryd.func19, Tryd.ntmps19
  go_wp2
  exact bodyPost_ret (v := .agg #[.int .i64 t, .slice B m d]) (by simp only [results, Tryd.results19]; go_simp) rfl ⟨rfl, by repeat (first | with_reducible assumption | with_reducible exact G.refl _ | with_reducible refine G.drew ?_ | with_reducible refine G.drewN ?_ _ | with_reducible refine G.alloc ?_ _ | with_reducible refine Below.setCell ?_ (by first | (simp; done) | (simp; omega)) _ | with_reducible refine G.trans ?_ hb12 | with_reducible refine G.trans ?_ hb11 | with_reducible refine G.trans ?_ hb10 | with_reducible refine G.trans ?_ hb9 | with_reducible refine G.trans ?_ hb8 | with_reducible refine G.trans ?_ hb7 | with_reducible refine G.trans ?_ hb6 | with_reducible refine G.trans ?_ hb5 | with_reducible refine G.trans ?_ hb4 | with_reducible refine G.trans ?_ hb3 | with_reducible refine G.trans ?_ hb2 | with_reducible refine G.trans ?_ hb1 | with_reducible refine G.trans ?_ hb | assumption)⟩
set_option maxRecDepth 20000 in set_option maxHeartbeats 400000 in
theorem plus_r0 (s : Int) (A B : Option Addr) (n m c d : Nat) (w : World) (hs : ¬ s = 0) :
    Calls Tryd.prog 19 #[.agg #[.int .i64 s, .slice A n c], .agg #[.int .i64 0, .slice B m d]] w fun e w' => e = .returned (.agg #[.int .i64 s, .slice A n c]) ∧ Below w.heap.size w w' := by
  have hsb : (s == 0) = false := by simp [hs]
  clear hs
  go_enter Tryd.func19, Tryd.ntmps19
  go_wp2
  exact bodyPost_ret (v := .agg #[.int .i64 s, .slice A n c]) (by simp only [results, Tryd.results19]; go_simp) rfl ⟨rfl, by repeat (first | with_reducible assumption | with_reducible exact G.refl _ | with_reducible refine G.drew ?_ | with_reducible refine G.drewN ?_ _ | with_reducible refine G.alloc ?_ _ | with_reducible refine Below.setCell ?_ (by first | (simp; done) | (simp; omega)) _ | with_reducible refine G.trans ?_ hb12 | with_reducible refine G.trans ?_ hb11 | with_reducible refine G.trans ?_ hb10 | with_reducible refine G.trans ?_ hb9 | with_reducible refine G.trans ?_ hb8 | with_reducible refine G.trans ?_ hb7 | with_reducible refine G.trans ?_ hb6 | with_reducible refine G.trans ?_ hb5 | with_reducible refine G.trans ?_ hb4 | with_reducible refine G.trans ?_ hb3 | with_reducible refine G.trans ?_ hb2 | with_reducible refine G.trans ?_ hb1 | with_reducible refine G.trans ?_ hb | assumption)⟩
end Go.Proofs.YtoipapcbngknfaaDoor
