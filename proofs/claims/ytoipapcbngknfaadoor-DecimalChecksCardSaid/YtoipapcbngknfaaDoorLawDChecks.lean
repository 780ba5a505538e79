/- The law DecimalChecks returns true: the walk. -/
import Derived.Test.YtoipapcbngknfaaDoorDec6
import Derived.Test.YtoipapcbngknfaaDoorRef7
import Derived.Test.YtoipapcbngknfaaDoorDKnown
namespace Go.Proofs.YtoipapcbngknfaaDoor
set_option linter.unusedVariables false
set_option linter.unnecessarySimpa false
set_option linter.unusedSimpArgs false
open Go.RowKit

set_option maxRecDepth 20000 in set_option maxHeartbeats 1000000 in
theorem checks_bad (n s : Int) (w : World) (h1 : (Lit.int .i64 n).wf = true) (h : ¬ okN n s = true) (ht : Pow10 w) :
    Calls Tryd.prog 8 #[.agg #[.int .i64 n, .int .i64 s]] w fun e' w' => e' = .returned (.bool true) ∧ Below w.heap.size w w' := by
  have htt := Lib.hid ht
  have N1 := Lib.hid (fun w => normal_bad n s w h1 h)
  have G1 := fun w => negate_any n s w h1
  rw [show negN n s = (0, 0, 2) from if_neg h] at G1
  have F1 := fun w => floor_any n s w h1
  rw [show floorR n s = (0, 2) from if_neg h] at F1
  have I1 := fun w => is_any n s w
  rw [show okN n s = false by simpa using h] at I1
  have C1 := fun w => check1_any n s w h1
  rw [errN_bad h] at C1
  replace G1 := Lib.hid G1
  replace F1 := Lib.hid F1
  replace I1 := Lib.hid I1
  replace C1 := Lib.hid C1
  clear h h1 ht
  go_enter Tryd.func8, Tryd.ntmps8
  go_wp2_with fail
  refine (N1.out _).mono ?_
  rintro e' w1 ⟨rfl, hb1⟩
  
  replace k0 := G.cell (a := ⟨w.heap.size, 0, none⟩) (v := .int .i64 n) (by go_simp) hb1
  replace k1 := G.cell (a := ⟨w.heap.size, 1, none⟩) (v := .int .i64 s) (by go_simp) hb1
  replace lt0 := cell_lt k0
  replace lt1 := cell_lt k1
  go_wp2_with fail
  refine (G1.out _).mono ?_
  rintro e' w2 ⟨rfl, hb2⟩
  
  replace k0 := G.cell (a := ⟨w.heap.size, 0, none⟩) (v := .int .i64 n) (by go_simp) hb2
  replace k1 := G.cell (a := ⟨w.heap.size, 1, none⟩) (v := .int .i64 s) (by go_simp) hb2
  replace k2 := G.cell (a := ⟨w1.heap.size, 0, none⟩) (v := .int .i64 0) (by go_simp) hb2
  replace k3 := G.cell (a := ⟨w1.heap.size, 1, none⟩) (v := .int .i64 0) (by go_simp) hb2
  replace lt0 := cell_lt k0
  replace lt1 := cell_lt k1
  replace lt2 := cell_lt k2
  replace lt3 := cell_lt k3
  go_wp2_with fail
  refine (F1.out _).mono ?_
  rintro e' w3 ⟨rfl, hb3⟩
  
  replace k0 := G.cell (a := ⟨w.heap.size, 0, none⟩) (v := .int .i64 n) (by go_simp) hb3
  replace k1 := G.cell (a := ⟨w.heap.size, 1, none⟩) (v := .int .i64 s) (by go_simp) hb3
  replace k2 := G.cell (a := ⟨w1.heap.size, 0, none⟩) (v := .int .i64 0) (by go_simp) hb3
  replace k3 := G.cell (a := ⟨w1.heap.size, 1, none⟩) (v := .int .i64 0) (by go_simp) hb3
  replace k4 := G.cell (a := ⟨w2.heap.size, 0, none⟩) (v := .int .i64 0) (by go_simp) hb3
  replace k5 := G.cell (a := ⟨w2.heap.size, 1, none⟩) (v := .int .i64 0) (by go_simp) hb3
  replace lt0 := cell_lt k0
  replace lt1 := cell_lt k1
  replace lt2 := cell_lt k2
  replace lt3 := cell_lt k3
  replace lt4 := cell_lt k4
  replace lt5 := cell_lt k5
  go_wp2_with fail
  refine (known_any _ (htt.out.grow (by repeat (first | with_reducible assumption | with_reducible exact G.refl _ | with_reducible refine G.drew ?_ | with_reducible refine G.drewN ?_ _ | with_reducible refine G.alloc ?_ _ | with_reducible refine Below.setCell ?_ (by first | (simp; done) | (simp; omega)) _ | with_reducible refine G.trans ?_ hb12 | with_reducible refine G.trans ?_ hb11 | with_reducible refine G.trans ?_ hb10 | with_reducible refine G.trans ?_ hb9 | with_reducible refine G.trans ?_ hb8 | with_reducible refine G.trans ?_ hb7 | with_reducible refine G.trans ?_ hb6 | with_reducible refine G.trans ?_ hb5 | with_reducible refine G.trans ?_ hb4 | with_reducible refine G.trans ?_ hb3 | with_reducible refine G.trans ?_ hb2 | with_reducible refine G.trans ?_ hb1 | with_reducible refine G.trans ?_ hb | assumption)))).mono ?_
  rintro e' w4 ⟨rfl, hb4⟩
  replace k0 := G.cell (a := ⟨w.heap.size, 0, none⟩) (v := .int .i64 n) (by go_simp) hb4
  replace k1 := G.cell (a := ⟨w.heap.size, 1, none⟩) (v := .int .i64 s) (by go_simp) hb4
  replace k2 := G.cell (a := ⟨w1.heap.size, 0, none⟩) (v := .int .i64 0) (by go_simp) hb4
  replace k3 := G.cell (a := ⟨w1.heap.size, 1, none⟩) (v := .int .i64 0) (by go_simp) hb4
  replace k4 := G.cell (a := ⟨w2.heap.size, 0, none⟩) (v := .int .i64 0) (by go_simp) hb4
  replace k5 := G.cell (a := ⟨w2.heap.size, 1, none⟩) (v := .int .i64 0) (by go_simp) hb4
  replace lt0 := cell_lt k0
  replace lt1 := cell_lt k1
  replace lt2 := cell_lt k2
  replace lt3 := cell_lt k3
  replace lt4 := cell_lt k4
  replace lt5 := cell_lt k5
  go_wp2_with fail
  refine (I1.out _).mono ?_
  rintro e' w5 ⟨rfl, hb5⟩
  replace k0 := G.cell (a := ⟨w.heap.size, 0, none⟩) (v := .int .i64 n) (by go_simp) hb5
  replace k1 := G.cell (a := ⟨w.heap.size, 1, none⟩) (v := .int .i64 s) (by go_simp) hb5
  replace k2 := G.cell (a := ⟨w1.heap.size, 0, none⟩) (v := .int .i64 0) (by go_simp) hb5
  replace k3 := G.cell (a := ⟨w1.heap.size, 1, none⟩) (v := .int .i64 0) (by go_simp) hb5
  replace k4 := G.cell (a := ⟨w2.heap.size, 0, none⟩) (v := .int .i64 0) (by go_simp) hb5
  replace k5 := G.cell (a := ⟨w2.heap.size, 1, none⟩) (v := .int .i64 0) (by go_simp) hb5
  replace lt0 := cell_lt k0
  replace lt1 := cell_lt k1
  replace lt2 := cell_lt k2
  replace lt3 := cell_lt k3
  replace lt4 := cell_lt k4
  replace lt5 := cell_lt k5
  go_wp2_with fail
  refine (C1.out _).mono ?_
  rintro e' w6 ⟨rfl, hb6⟩
  replace k0 := G.cell (a := ⟨w.heap.size, 0, none⟩) (v := .int .i64 n) (by go_simp) hb6
  replace k1 := G.cell (a := ⟨w.heap.size, 1, none⟩) (v := .int .i64 s) (by go_simp) hb6
  replace k2 := G.cell (a := ⟨w1.heap.size, 0, none⟩) (v := .int .i64 0) (by go_simp) hb6
  replace k3 := G.cell (a := ⟨w1.heap.size, 1, none⟩) (v := .int .i64 0) (by go_simp) hb6
  replace k4 := G.cell (a := ⟨w2.heap.size, 0, none⟩) (v := .int .i64 0) (by go_simp) hb6
  replace k5 := G.cell (a := ⟨w2.heap.size, 1, none⟩) (v := .int .i64 0) (by go_simp) hb6
  replace lt0 := cell_lt k0
  replace lt1 := cell_lt k1
  replace lt2 := cell_lt k2
  replace lt3 := cell_lt k3
  replace lt4 := cell_lt k4
  replace lt5 := cell_lt k5
  go_wp2
  go_ret
  exact ⟨rfl, by repeat (first | with_reducible assumption | with_reducible exact G.refl _ | with_reducible refine G.drew ?_ | with_reducible refine G.drewN ?_ _ | with_reducible refine G.alloc ?_ _ | with_reducible refine Below.setCell ?_ (by first | (simp; done) | (simp; omega)) _ | with_reducible refine G.trans ?_ hb12 | with_reducible refine G.trans ?_ hb11 | with_reducible refine G.trans ?_ hb10 | with_reducible refine G.trans ?_ hb9 | with_reducible refine G.trans ?_ hb8 | with_reducible refine G.trans ?_ hb7 | with_reducible refine G.trans ?_ hb6 | with_reducible refine G.trans ?_ hb5 | with_reducible refine G.trans ?_ hb4 | with_reducible refine G.trans ?_ hb3 | with_reducible refine G.trans ?_ hb2 | with_reducible refine G.trans ?_ hb1 | with_reducible refine G.trans ?_ hb | assumption)⟩

set_option maxRecDepth 20000 in set_option maxHeartbeats 2000000 in
theorem checks_ok (n s : Int) (w : World) (h : okN n s = true) (ht : Pow10 w) :
    Calls Tryd.prog 8 #[.agg #[.int .i64 n, .int .i64 s]] w fun e' w' => e' = .returned (.bool true) ∧ Below w.heap.size w w' := by
  have htt := Lib.hid ht
  have N1 := Lib.hid (fun w => normal_ok n s w h)
  have G1 := fun w => negate_any n s w (wf_ok h)
  rw [show negN n s = (-n, s, 0) from if_pos h] at G1
  have F1 := fun w => floor_any n s w (wf_ok h)
  rw [show floorR n s = (floorN n s, 0) from if_pos h] at F1
  have I1 := fun w => is_any n s w
  rw [h] at I1
  have C1 := fun w => check1_any n s w (wf_ok h)
  rw [errN_ok h] at C1
  obtain ⟨f1, f2, f3, f4⟩ := floor_law h
  have hb' := okN_iff.1 h
  have hneg : IntKind.i64.wrap (-n) = -n := IntWalk.i64_in _ (by omega)
  have hzv : ∀ z : Int, valN z 0 = z * 1000000000000 := fun z => by unfold valN; rw [show p10 (12 - (0 : Int).toNat) = 1000000000000 by decide]
  have R2 : ∀ w, Calls Tryd.prog 35 #[.agg #[.int .i64 (floorN n s), .int .i64 0], .agg #[.int .i64 n, .int .i64 s]] w fun e w' => e = .returned (.int .i64 (cmpI (valN (floorN n s) 0) (valN n s))) ∧ Below w.heap.size w w' := fun w => refcmp_any _ _ _ _ w (okN_iff.2 ⟨f3, f4, by omega, by omega⟩) h
  have c2 : cmpI (valN (floorN n s) 0) (valN n s) ≤ 0 := by rw [hzv]; unfold cmpI; (repeat' split) <;> omega
  have R3 : floorN n s ≠ 999999999999999 → ∀ w, Calls Tryd.prog 35 #[.agg #[.int .i64 (floorN n s + 1), .int .i64 0], .agg #[.int .i64 n, .int .i64 s]] w fun e w' => e = .returned (.int .i64 1) ∧ Below w.heap.size w w' := fun hne w => by
    have := refcmp_any (floorN n s + 1) 0 n s w (okN_iff.2 ⟨by omega, by omega, by omega, by omega⟩) h
    rwa [show cmpI (valN (floorN n s + 1) 0) (valN n s) = 1 from cmpI_gt (by rw [hzv]; exact f2)] at this
  have hX := Lib.hid (fun n' s' (hN : IsNormal n s n' s') w => refcmp_any n' s' n s w hN.1 h)
  generalize floorN n s = z at *
  generalize cmpI (valN z 0) (valN n s) = cz at *
  replace G1 := Lib.hid G1
  replace F1 := Lib.hid F1
  replace I1 := Lib.hid I1
  replace C1 := Lib.hid C1
  replace R2 := Lib.hid R2
  replace R3 := Lib.hid R3
  have hzw : IntKind.i64.wrap (z + 1) = z + 1 := IntWalk.i64_in _ (by omega)
  clear h ht hb' hzv f1 f2
  go_enter Tryd.func8, Tryd.ntmps8
  go_wp2_with fail
  refine (N1.out _).mono ?_
  rintro e' w1 ⟨n', s', rfl, hN, hb1⟩
  
  replace k0 := G.cell (a := ⟨w.heap.size, 0, none⟩) (v := .int .i64 n) (by go_simp) hb1
  replace k1 := G.cell (a := ⟨w.heap.size, 1, none⟩) (v := .int .i64 s) (by go_simp) hb1
  replace lt0 := cell_lt k0
  replace lt1 := cell_lt k1
  have hNN := Lib.hid hN
  have I2 := fun w => is_any n' s' w
  rw [hN.1] at I2
  replace I2 := Lib.hid I2
  have RX := fun w => hX.out n' s' hN w
  rw [show cmpI (valN n' s') (valN n s) = 0 from cmpI_zero.2 hN.2.1] at RX
  replace RX := Lib.hid RX
  clear hN hX
  go_wp2_with fail
  refine (G1.out _).mono ?_
  rintro e' w2 ⟨rfl, hb2⟩
  
  replace k0 := G.cell (a := ⟨w.heap.size, 0, none⟩) (v := .int .i64 n) (by go_simp) hb2
  replace k1 := G.cell (a := ⟨w.heap.size, 1, none⟩) (v := .int .i64 s) (by go_simp) hb2
  replace k2 := G.cell (a := ⟨w1.heap.size, 0, none⟩) (v := .int .i64 n') (by go_simp) hb2
  replace k3 := G.cell (a := ⟨w1.heap.size, 1, none⟩) (v := .int .i64 s') (by go_simp) hb2
  replace lt0 := cell_lt k0
  replace lt1 := cell_lt k1
  replace lt2 := cell_lt k2
  replace lt3 := cell_lt k3
  go_wp2_with fail
  refine (F1.out _).mono ?_
  rintro e' w3 ⟨rfl, hb3⟩
  
  replace k0 := G.cell (a := ⟨w.heap.size, 0, none⟩) (v := .int .i64 n) (by go_simp) hb3
  replace k1 := G.cell (a := ⟨w.heap.size, 1, none⟩) (v := .int .i64 s) (by go_simp) hb3
  replace k2 := G.cell (a := ⟨w1.heap.size, 0, none⟩) (v := .int .i64 n') (by go_simp) hb3
  replace k3 := G.cell (a := ⟨w1.heap.size, 1, none⟩) (v := .int .i64 s') (by go_simp) hb3
  replace k4 := G.cell (a := ⟨w2.heap.size, 0, none⟩) (v := .int .i64 (-n)) (by go_simp) hb3
  replace k5 := G.cell (a := ⟨w2.heap.size, 1, none⟩) (v := .int .i64 s) (by go_simp) hb3
  replace lt0 := cell_lt k0
  replace lt1 := cell_lt k1
  replace lt2 := cell_lt k2
  replace lt3 := cell_lt k3
  replace lt4 := cell_lt k4
  replace lt5 := cell_lt k5
  go_wp2_with fail
  refine (known_any _ (htt.out.grow (by repeat (first | with_reducible assumption | with_reducible exact G.refl _ | with_reducible refine G.drew ?_ | with_reducible refine G.drewN ?_ _ | with_reducible refine G.alloc ?_ _ | with_reducible refine Below.setCell ?_ (by first | (simp; done) | (simp; omega)) _ | with_reducible refine G.trans ?_ hb12 | with_reducible refine G.trans ?_ hb11 | with_reducible refine G.trans ?_ hb10 | with_reducible refine G.trans ?_ hb9 | with_reducible refine G.trans ?_ hb8 | with_reducible refine G.trans ?_ hb7 | with_reducible refine G.trans ?_ hb6 | with_reducible refine G.trans ?_ hb5 | with_reducible refine G.trans ?_ hb4 | with_reducible refine G.trans ?_ hb3 | with_reducible refine G.trans ?_ hb2 | with_reducible refine G.trans ?_ hb1 | with_reducible refine G.trans ?_ hb | assumption)))).mono ?_
  rintro e' w4 ⟨rfl, hb4⟩
  replace k0 := G.cell (a := ⟨w.heap.size, 0, none⟩) (v := .int .i64 n) (by go_simp) hb4
  replace k1 := G.cell (a := ⟨w.heap.size, 1, none⟩) (v := .int .i64 s) (by go_simp) hb4
  replace k2 := G.cell (a := ⟨w1.heap.size, 0, none⟩) (v := .int .i64 n') (by go_simp) hb4
  replace k3 := G.cell (a := ⟨w1.heap.size, 1, none⟩) (v := .int .i64 s') (by go_simp) hb4
  replace k4 := G.cell (a := ⟨w2.heap.size, 0, none⟩) (v := .int .i64 (-n)) (by go_simp) hb4
  replace k5 := G.cell (a := ⟨w2.heap.size, 1, none⟩) (v := .int .i64 s) (by go_simp) hb4
  replace lt0 := cell_lt k0
  replace lt1 := cell_lt k1
  replace lt2 := cell_lt k2
  replace lt3 := cell_lt k3
  replace lt4 := cell_lt k4
  replace lt5 := cell_lt k5
  go_wp2_with fail
  refine (I1.out _).mono ?_
  rintro e' w5 ⟨rfl, hb5⟩
  replace k0 := G.cell (a := ⟨w.heap.size, 0, none⟩) (v := .int .i64 n) (by go_simp) hb5
  replace k1 := G.cell (a := ⟨w.heap.size, 1, none⟩) (v := .int .i64 s) (by go_simp) hb5
  replace k2 := G.cell (a := ⟨w1.heap.size, 0, none⟩) (v := .int .i64 n') (by go_simp) hb5
  replace k3 := G.cell (a := ⟨w1.heap.size, 1, none⟩) (v := .int .i64 s') (by go_simp) hb5
  replace k4 := G.cell (a := ⟨w2.heap.size, 0, none⟩) (v := .int .i64 (-n)) (by go_simp) hb5
  replace k5 := G.cell (a := ⟨w2.heap.size, 1, none⟩) (v := .int .i64 s) (by go_simp) hb5
  replace lt0 := cell_lt k0
  replace lt1 := cell_lt k1
  replace lt2 := cell_lt k2
  replace lt3 := cell_lt k3
  replace lt4 := cell_lt k4
  replace lt5 := cell_lt k5
  go_wp2_with fail
  refine (C1.out _).mono ?_
  rintro e' w6 ⟨rfl, hb6⟩
  replace k0 := G.cell (a := ⟨w.heap.size, 0, none⟩) (v := .int .i64 n) (by go_simp) hb6
  replace k1 := G.cell (a := ⟨w.heap.size, 1, none⟩) (v := .int .i64 s) (by go_simp) hb6
  replace k2 := G.cell (a := ⟨w1.heap.size, 0, none⟩) (v := .int .i64 n') (by go_simp) hb6
  replace k3 := G.cell (a := ⟨w1.heap.size, 1, none⟩) (v := .int .i64 s') (by go_simp) hb6
  replace k4 := G.cell (a := ⟨w2.heap.size, 0, none⟩) (v := .int .i64 (-n)) (by go_simp) hb6
  replace k5 := G.cell (a := ⟨w2.heap.size, 1, none⟩) (v := .int .i64 s) (by go_simp) hb6
  replace lt0 := cell_lt k0
  replace lt1 := cell_lt k1
  replace lt2 := cell_lt k2
  replace lt3 := cell_lt k3
  replace lt4 := cell_lt k4
  replace lt5 := cell_lt k5
  have hbw : Below w.heap.size w w6 := by repeat (first | with_reducible assumption | with_reducible exact G.refl _ | with_reducible refine G.drew ?_ | with_reducible refine G.drewN ?_ _ | with_reducible refine G.alloc ?_ _ | with_reducible refine Below.setCell ?_ (by first | (simp; done) | (simp; omega)) _ | with_reducible refine G.trans ?_ hb12 | with_reducible refine G.trans ?_ hb11 | with_reducible refine G.trans ?_ hb10 | with_reducible refine G.trans ?_ hb9 | with_reducible refine G.trans ?_ hb8 | with_reducible refine G.trans ?_ hb7 | with_reducible refine G.trans ?_ hb6 | with_reducible refine G.trans ?_ hb5 | with_reducible refine G.trans ?_ hb4 | with_reducible refine G.trans ?_ hb3 | with_reducible refine G.trans ?_ hb2 | with_reducible refine G.trans ?_ hb1 | with_reducible refine G.trans ?_ hb | assumption)
  clear hb1 hb2 hb3 hb4 hb5 hb6
  go_wp2_with fail
  refine (I2.out _).mono ?_
  rintro e' w7 ⟨rfl, hb7⟩
  replace k0 := G.cell (a := ⟨w.heap.size, 0, none⟩) (v := .int .i64 n) (by go_simp) hb7
  replace k1 := G.cell (a := ⟨w.heap.size, 1, none⟩) (v := .int .i64 s) (by go_simp) hb7
  replace k2 := G.cell (a := ⟨w1.heap.size, 0, none⟩) (v := .int .i64 n') (by go_simp) hb7
  replace k3 := G.cell (a := ⟨w1.heap.size, 1, none⟩) (v := .int .i64 s') (by go_simp) hb7
  replace k4 := G.cell (a := ⟨w2.heap.size, 0, none⟩) (v := .int .i64 (-n)) (by go_simp) hb7
  replace k5 := G.cell (a := ⟨w2.heap.size, 1, none⟩) (v := .int .i64 s) (by go_simp) hb7
  replace lt0 := cell_lt k0
  replace lt1 := cell_lt k1
  replace lt2 := cell_lt k2
  replace lt3 := cell_lt k3
  replace lt4 := cell_lt k4
  replace lt5 := cell_lt k5
  go_wp2_with fail
  refine (RX.out _).mono ?_
  rintro e' w8 ⟨rfl, hb8⟩
  replace k0 := G.cell (a := ⟨w.heap.size, 0, none⟩) (v := .int .i64 n) (by go_simp) hb8
  replace k1 := G.cell (a := ⟨w.heap.size, 1, none⟩) (v := .int .i64 s) (by go_simp) hb8
  replace k2 := G.cell (a := ⟨w1.heap.size, 0, none⟩) (v := .int .i64 n') (by go_simp) hb8
  replace k3 := G.cell (a := ⟨w1.heap.size, 1, none⟩) (v := .int .i64 s') (by go_simp) hb8
  replace k4 := G.cell (a := ⟨w2.heap.size, 0, none⟩) (v := .int .i64 (-n)) (by go_simp) hb8
  replace k5 := G.cell (a := ⟨w2.heap.size, 1, none⟩) (v := .int .i64 s) (by go_simp) hb8
  replace lt0 := cell_lt k0
  replace lt1 := cell_lt k1
  replace lt2 := cell_lt k2
  replace lt3 := cell_lt k3
  replace lt4 := cell_lt k4
  replace lt5 := cell_lt k5
  replace hbw := G.trans (G.trans hbw hb7) hb8
  clear hb7 hb8
  have hcase : ¬ 0 < s' ∨ (0 < s' ∧ (n'.tmod 10 == 0) = false) := by
    by_cases h0 : 0 < s'
    · exact .inr ⟨h0, by simp [hNN.out.2.2 h0]⟩
    · exact .inl h0
  have H := Lib.hid hcase
  clear hcase
  rcases H.out with h0 | ⟨h0, h9⟩
  all_goals
    go_wp2_with fail
    refine (R2.out _).mono ?_
    rintro e' w9 ⟨rfl, hb9⟩
    
    replace k0 := G.cell (a := ⟨w.heap.size, 0, none⟩) (v := .int .i64 n) (by go_simp) hb9
    replace k1 := G.cell (a := ⟨w.heap.size, 1, none⟩) (v := .int .i64 s) (by go_simp) hb9
    replace k2 := G.cell (a := ⟨w1.heap.size, 0, none⟩) (v := .int .i64 n') (by go_simp) hb9
    replace k3 := G.cell (a := ⟨w1.heap.size, 1, none⟩) (v := .int .i64 s') (by go_simp) hb9
    replace k4 := G.cell (a := ⟨w2.heap.size, 0, none⟩) (v := .int .i64 (-n)) (by go_simp) hb9
    replace k5 := G.cell (a := ⟨w2.heap.size, 1, none⟩) (v := .int .i64 s) (by go_simp) hb9
    replace k6 := G.cell (a := ⟨w8.heap.size, 0, none⟩) (v := .int .i64 (z + 1)) (by go_simp) hb9
    replace k7 := G.cell (a := ⟨w8.heap.size, 1, none⟩) (v := .int .i64 0) (by go_simp) hb9
    replace lt0 := cell_lt k0
    replace lt1 := cell_lt k1
    replace lt2 := cell_lt k2
    replace lt3 := cell_lt k3
    replace lt4 := cell_lt k4
    replace lt5 := cell_lt k5
    replace lt6 := cell_lt k6
    replace lt7 := cell_lt k7
    replace hbw := G.trans (G.alloc hbw _) hb9
    clear hb9
    by_cases hz : z = 999999999999999
    · have hzb : (z == 999999999999999) = true := by simp [hz]
      clear hz R3
      go_wp2
      go_ret
      exact ⟨rfl, hbw⟩
    · have hzb : (z == 999999999999999) = false := by simp [hz]
      have R33 := Lib.hid (R3.out hz)
      clear hz R3
      go_wp2_with fail
      refine (R33.out _).mono ?_
      rintro e' w10 ⟨rfl, hb10⟩
      go_wp2
      go_ret
      exact ⟨rfl, G.trans hbw hb10⟩

theorem decimalChecks_any (n s : Int) (w : World) (h1 : (Lit.int .i64 n).wf = true) (ht : Pow10 w) :
    Calls Tryd.prog 8 #[.agg #[.int .i64 n, .int .i64 s]] w fun e' w' => e' = .returned (.bool true) ∧ Below w.heap.size w w' := by
  by_cases h : okN n s = true
  · exact checks_ok n s w h ht
  · exact checks_bad n s w h1 h ht
end Go.Proofs.YtoipapcbngknfaaDoor
