/- The law DecimalDivides returns true: the walk. -/
import Derived.Test.YtoipapcbngknfaaDoorRef11
import Derived.Test.YtoipapcbngknfaaDoorDKnown
namespace Go.Proofs.YtoipapcbngknfaaDoor
set_option linter.unusedVariables false
set_option linter.unnecessarySimpa false
set_option linter.unusedSimpArgs false
open Go.RowKit

set_option maxRecDepth 20000 in set_option maxHeartbeats 1000000 in
theorem decimalDivides_any (n s m t sc : Int) (w : World) (h1 : (Lit.int .i64 n).wf = true) (h2 : (Lit.int .i64 m).wf = true) (h3 : (Lit.int .i64 sc).wf = true) (ht : Pow10 w) :
    Calls Tryd.prog 3 #[.agg #[.int .i64 n, .int .i64 s], .agg #[.int .i64 m, .int .i64 t], .int .i64 sc] w fun e' w' => e' = .returned (.bool true) ∧ Below w.heap.size w w' := by
  have htt := Lib.hid ht
  have M1 := fun w => div_any n s m t sc w h1 h2
  have R1 := fun w => refdiv_any n s m t sc w
  have M2 := fun w => round_any n s sc w h1
  have R2 := fun w => refdiv_any n s 1 0 sc w
  unfold RetF RetN at M1 R1 M2 R2
  generalize divN n s m t sc = p at *
  generalize divN n s 1 0 sc = q at *
  obtain ⟨p1, p2, p3⟩ := p
  obtain ⟨q1, q2, q3⟩ := q
  simp only at M1 R1 M2 R2
  replace M1 := Lib.hid M1
  replace R1 := Lib.hid R1
  replace M2 := Lib.hid M2
  replace R2 := Lib.hid R2
  clear h1 h2 h3 ht
  go_enter Tryd.func3, Tryd.ntmps3
  go_wp2_with fail
  refine (M1.out _).mono ?_
  rintro e' w1 ⟨rfl, hb1⟩
  
  replace k0 := G.cell (a := ⟨w.heap.size, 0, none⟩) (v := .int .i64 n) (by go_simp) hb1
  replace k1 := G.cell (a := ⟨w.heap.size, 1, none⟩) (v := .int .i64 s) (by go_simp) hb1
  replace k2 := G.cell (a := ⟨w.heap.size + 1, 0, none⟩) (v := .int .i64 m) (by go_simp) hb1
  replace k3 := G.cell (a := ⟨w.heap.size + 1, 1, none⟩) (v := .int .i64 t) (by go_simp) hb1
  replace lt0 := cell_lt k0
  replace lt1 := cell_lt k1
  replace lt2 := cell_lt k2
  replace lt3 := cell_lt k3
  go_wp2_with fail
  refine (R1.out _).mono ?_
  rintro e' w2 ⟨rfl, hb2⟩
  
  replace k0 := G.cell (a := ⟨w.heap.size, 0, none⟩) (v := .int .i64 n) (by go_simp) hb2
  replace k1 := G.cell (a := ⟨w.heap.size, 1, none⟩) (v := .int .i64 s) (by go_simp) hb2
  replace k2 := G.cell (a := ⟨w.heap.size + 1, 0, none⟩) (v := .int .i64 m) (by go_simp) hb2
  replace k3 := G.cell (a := ⟨w.heap.size + 1, 1, none⟩) (v := .int .i64 t) (by go_simp) hb2
  replace k4 := G.cell (a := ⟨w1.heap.size, 0, none⟩) (v := .int .i64 p1) (by go_simp) hb2
  replace k5 := G.cell (a := ⟨w1.heap.size, 1, none⟩) (v := .int .i64 p2) (by go_simp) hb2
  replace lt0 := cell_lt k0
  replace lt1 := cell_lt k1
  replace lt2 := cell_lt k2
  replace lt3 := cell_lt k3
  replace lt4 := cell_lt k4
  replace lt5 := cell_lt k5
  go_wp2_with fail
  refine (M2.out _).mono ?_
  rintro e' w3 ⟨rfl, hb3⟩
  
  replace k0 := G.cell (a := ⟨w.heap.size, 0, none⟩) (v := .int .i64 n) (by go_simp) hb3
  replace k1 := G.cell (a := ⟨w.heap.size, 1, none⟩) (v := .int .i64 s) (by go_simp) hb3
  replace k2 := G.cell (a := ⟨w.heap.size + 1, 0, none⟩) (v := .int .i64 m) (by go_simp) hb3
  replace k3 := G.cell (a := ⟨w.heap.size + 1, 1, none⟩) (v := .int .i64 t) (by go_simp) hb3
  replace k4 := G.cell (a := ⟨w1.heap.size, 0, none⟩) (v := .int .i64 p1) (by go_simp) hb3
  replace k5 := G.cell (a := ⟨w1.heap.size, 1, none⟩) (v := .int .i64 p2) (by go_simp) hb3
  replace k6 := G.cell (a := ⟨w2.heap.size, 0, none⟩) (v := .int .i64 p1) (by go_simp) hb3
  replace k7 := G.cell (a := ⟨w2.heap.size, 1, none⟩) (v := .int .i64 p2) (by go_simp) hb3
  replace lt0 := cell_lt k0
  replace lt1 := cell_lt k1
  replace lt2 := cell_lt k2
  replace lt3 := cell_lt k3
  replace lt4 := cell_lt k4
  replace lt5 := cell_lt k5
  replace lt6 := cell_lt k6
  replace lt7 := cell_lt k7
  go_wp2_with fail
  refine (R2.out _).mono ?_
  rintro e' w4 ⟨rfl, hb4⟩
  
  replace k0 := G.cell (a := ⟨w.heap.size, 0, none⟩) (v := .int .i64 n) (by go_simp) hb4
  replace k1 := G.cell (a := ⟨w.heap.size, 1, none⟩) (v := .int .i64 s) (by go_simp) hb4
  replace k2 := G.cell (a := ⟨w.heap.size + 1, 0, none⟩) (v := .int .i64 m) (by go_simp) hb4
  replace k3 := G.cell (a := ⟨w.heap.size + 1, 1, none⟩) (v := .int .i64 t) (by go_simp) hb4
  replace k4 := G.cell (a := ⟨w1.heap.size, 0, none⟩) (v := .int .i64 p1) (by go_simp) hb4
  replace k5 := G.cell (a := ⟨w1.heap.size, 1, none⟩) (v := .int .i64 p2) (by go_simp) hb4
  replace k6 := G.cell (a := ⟨w2.heap.size, 0, none⟩) (v := .int .i64 p1) (by go_simp) hb4
  replace k7 := G.cell (a := ⟨w2.heap.size, 1, none⟩) (v := .int .i64 p2) (by go_simp) hb4
  replace k8 := G.cell (a := ⟨w3.heap.size, 0, none⟩) (v := .int .i64 q1) (by go_simp) hb4
  replace k9 := G.cell (a := ⟨w3.heap.size, 1, none⟩) (v := .int .i64 q2) (by go_simp) hb4
  replace lt0 := cell_lt k0
  replace lt1 := cell_lt k1
  replace lt2 := cell_lt k2
  replace lt3 := cell_lt k3
  replace lt4 := cell_lt k4
  replace lt5 := cell_lt k5
  replace lt6 := cell_lt k6
  replace lt7 := cell_lt k7
  replace lt8 := cell_lt k8
  replace lt9 := cell_lt k9
  go_wp2_with fail
  refine (known_any _ (htt.out.grow (by repeat (first | with_reducible assumption | with_reducible exact G.refl _ | with_reducible refine G.drew ?_ | with_reducible refine G.drewN ?_ _ | with_reducible refine G.alloc ?_ _ | with_reducible refine Below.setCell ?_ (by first | (simp; done) | (simp; omega)) _ | with_reducible refine G.trans ?_ hb12 | with_reducible refine G.trans ?_ hb11 | with_reducible refine G.trans ?_ hb10 | with_reducible refine G.trans ?_ hb9 | with_reducible refine G.trans ?_ hb8 | with_reducible refine G.trans ?_ hb7 | with_reducible refine G.trans ?_ hb6 | with_reducible refine G.trans ?_ hb5 | with_reducible refine G.trans ?_ hb4 | with_reducible refine G.trans ?_ hb3 | with_reducible refine G.trans ?_ hb2 | with_reducible refine G.trans ?_ hb1 | with_reducible refine G.trans ?_ hb | assumption)))).mono ?_
  rintro e' w5 ⟨rfl, hb5⟩
  
  replace k0 := G.cell (a := ⟨w.heap.size, 0, none⟩) (v := .int .i64 n) (by go_simp) hb5
  replace k1 := G.cell (a := ⟨w.heap.size, 1, none⟩) (v := .int .i64 s) (by go_simp) hb5
  replace k2 := G.cell (a := ⟨w.heap.size + 1, 0, none⟩) (v := .int .i64 m) (by go_simp) hb5
  replace k3 := G.cell (a := ⟨w.heap.size + 1, 1, none⟩) (v := .int .i64 t) (by go_simp) hb5
  replace k4 := G.cell (a := ⟨w1.heap.size, 0, none⟩) (v := .int .i64 p1) (by go_simp) hb5
  replace k5 := G.cell (a := ⟨w1.heap.size, 1, none⟩) (v := .int .i64 p2) (by go_simp) hb5
  replace k6 := G.cell (a := ⟨w2.heap.size, 0, none⟩) (v := .int .i64 p1) (by go_simp) hb5
  replace k7 := G.cell (a := ⟨w2.heap.size, 1, none⟩) (v := .int .i64 p2) (by go_simp) hb5
  replace k8 := G.cell (a := ⟨w3.heap.size, 0, none⟩) (v := .int .i64 q1) (by go_simp) hb5
  replace k9 := G.cell (a := ⟨w3.heap.size, 1, none⟩) (v := .int .i64 q2) (by go_simp) hb5
  replace k10 := G.cell (a := ⟨w4.heap.size, 0, none⟩) (v := .int .i64 q1) (by go_simp) hb5
  replace k11 := G.cell (a := ⟨w4.heap.size, 1, none⟩) (v := .int .i64 q2) (by go_simp) hb5
  replace lt0 := cell_lt k0
  replace lt1 := cell_lt k1
  replace lt2 := cell_lt k2
  replace lt3 := cell_lt k3
  replace lt4 := cell_lt k4
  replace lt5 := cell_lt k5
  replace lt6 := cell_lt k6
  replace lt7 := cell_lt k7
  replace lt8 := cell_lt k8
  replace lt9 := cell_lt k9
  replace lt10 := cell_lt k10
  replace lt11 := cell_lt k11
  go_wp2_with fail
  go_ret
  exact ⟨rfl, by repeat (first | with_reducible assumption | with_reducible exact G.refl _ | with_reducible refine G.drew ?_ | with_reducible refine G.drewN ?_ _ | with_reducible refine G.alloc ?_ _ | with_reducible refine Below.setCell ?_ (by first | (simp; done) | (simp; omega)) _ | with_reducible refine G.trans ?_ hb12 | with_reducible refine G.trans ?_ hb11 | with_reducible refine G.trans ?_ hb10 | with_reducible refine G.trans ?_ hb9 | with_reducible refine G.trans ?_ hb8 | with_reducible refine G.trans ?_ hb7 | with_reducible refine G.trans ?_ hb6 | with_reducible refine G.trans ?_ hb5 | with_reducible refine G.trans ?_ hb4 | with_reducible refine G.trans ?_ hb3 | with_reducible refine G.trans ?_ hb2 | with_reducible refine G.trans ?_ hb1 | with_reducible refine G.trans ?_ hb | assumption)⟩
end Go.Proofs.YtoipapcbngknfaaDoor
