/- The law DecimalMultiplies returns true: the walk. -/
import Derived.Test.YtoipapcbngknfaaDoorRef9
import Derived.Test.YtoipapcbngknfaaDoorDKnown
namespace Go.Proofs.YtoipapcbngknfaaDoor
set_option linter.unusedVariables false
set_option linter.unnecessarySimpa false
set_option linter.unusedSimpArgs false
open Go.RowKit

set_option maxRecDepth 20000 in set_option maxHeartbeats 1000000 in
theorem decimalMultiplies_any (n s m t : Int) (w : World) (h1 : (Lit.int .i64 n).wf = true) (h2 : (Lit.int .i64 m).wf = true) (ht : Pow10 w) :
    Calls Tryd.prog 6 #[.agg #[.int .i64 n, .int .i64 s], .agg #[.int .i64 m, .int .i64 t]] w fun e' w' => e' = .returned (.bool true) ∧ Below w.heap.size w w' := by
  have htt := Lib.hid ht
  have M1 := fun w => mul_any n s m t w h1 h2
  have R1 := fun w => refmul_any n s m t w
  unfold RetF RetN at M1 R1
  generalize mulN n s m t = p at *
  obtain ⟨p1, p2, p3⟩ := p
  simp only at M1 R1
  replace M1 := Lib.hid M1
  replace R1 := Lib.hid R1
  have q1 : (p1 != p1) = false := by simp
  have q2 : (p2 != p2) = false := by simp
  clear h1 h2 ht
  go_enter Tryd.func6, Tryd.ntmps6
  go_wp2_with fail
  refine (M1.out _).mono ?_
  rintro e' w1 ⟨rfl, hb1⟩
  
  replace k0 := G.cell (a := ⟨w.heap.size, 0, none⟩) (v := .int .i64 n) (by go_simp) hb1
  replace k1 := G.cell (a := ⟨w.heap.size, 1, none⟩) (v := .int .i64 s) (by go_simp) hb1
  replace k2 := G.cell (a := ⟨w.heap.size + 1, 0, none⟩) (v := .int .i64 m) (by go_simp) hb1
  replace k3 := G.cell (a := ⟨w.heap.size + 1, 1, none⟩) (v := .int .i64 t) (by go_simp) hb1
  replace lt0 := cell_lt k0
  replace lt1 := cell_lt k1
  replace lt2 := cell_lt k2
  replace lt3 := cell_lt k3
  go_wp2_with fail
  refine (R1.out _).mono ?_
  rintro e' w2 ⟨rfl, hb2⟩
  
  replace k0 := G.cell (a := ⟨w.heap.size, 0, none⟩) (v := .int .i64 n) (by go_simp) hb2
  replace k1 := G.cell (a := ⟨w.heap.size, 1, none⟩) (v := .int .i64 s) (by go_simp) hb2
  replace k2 := G.cell (a := ⟨w.heap.size + 1, 0, none⟩) (v := .int .i64 m) (by go_simp) hb2
  replace k3 := G.cell (a := ⟨w.heap.size + 1, 1, none⟩) (v := .int .i64 t) (by go_simp) hb2
  replace k4 := G.cell (a := ⟨w1.heap.size, 0, none⟩) (v := .int .i64 p1) (by go_simp) hb2
  replace k5 := G.cell (a := ⟨w1.heap.size, 1, none⟩) (v := .int .i64 p2) (by go_simp) hb2
  replace lt0 := cell_lt k0
  replace lt1 := cell_lt k1
  replace lt2 := cell_lt k2
  replace lt3 := cell_lt k3
  replace lt4 := cell_lt k4
  replace lt5 := cell_lt k5
  go_wp2_with fail
  refine (known_any _ (htt.out.grow (by repeat (first | with_reducible assumption | with_reducible exact G.refl _ | with_reducible refine G.drew ?_ | with_reducible refine G.drewN ?_ _ | with_reducible refine G.alloc ?_ _ | with_reducible refine Below.setCell ?_ (by first | (simp; done) | (simp; omega)) _ | with_reducible refine G.trans ?_ hb12 | with_reducible refine G.trans ?_ hb11 | with_reducible refine G.trans ?_ hb10 | with_reducible refine G.trans ?_ hb9 | with_reducible refine G.trans ?_ hb8 | with_reducible refine G.trans ?_ hb7 | with_reducible refine G.trans ?_ hb6 | with_reducible refine G.trans ?_ hb5 | with_reducible refine G.trans ?_ hb4 | with_reducible refine G.trans ?_ hb3 | with_reducible refine G.trans ?_ hb2 | with_reducible refine G.trans ?_ hb1 | with_reducible refine G.trans ?_ hb | assumption)))).mono ?_
  rintro e' w3 ⟨rfl, hb3⟩
  
  replace k0 := G.cell (a := ⟨w.heap.size, 0, none⟩) (v := .int .i64 n) (by go_simp) hb3
  replace k1 := G.cell (a := ⟨w.heap.size, 1, none⟩) (v := .int .i64 s) (by go_simp) hb3
  replace k2 := G.cell (a := ⟨w.heap.size + 1, 0, none⟩) (v := .int .i64 m) (by go_simp) hb3
  replace k3 := G.cell (a := ⟨w.heap.size + 1, 1, none⟩) (v := .int .i64 t) (by go_simp) hb3
  replace k4 := G.cell (a := ⟨w1.heap.size, 0, none⟩) (v := .int .i64 p1) (by go_simp) hb3
  replace k5 := G.cell (a := ⟨w1.heap.size, 1, none⟩) (v := .int .i64 p2) (by go_simp) hb3
  replace k6 := G.cell (a := ⟨w2.heap.size, 0, none⟩) (v := .int .i64 p1) (by go_simp) hb3
  replace k7 := G.cell (a := ⟨w2.heap.size, 1, none⟩) (v := .int .i64 p2) (by go_simp) hb3
  replace lt0 := cell_lt k0
  replace lt1 := cell_lt k1
  replace lt2 := cell_lt k2
  replace lt3 := cell_lt k3
  replace lt4 := cell_lt k4
  replace lt5 := cell_lt k5
  replace lt6 := cell_lt k6
  replace lt7 := cell_lt k7
  go_wp2_with fail
  go_ret
  exact ⟨rfl, by repeat (first | with_reducible assumption | with_reducible exact G.refl _ | with_reducible refine G.drew ?_ | with_reducible refine G.drewN ?_ _ | with_reducible refine G.alloc ?_ _ | with_reducible refine Below.setCell ?_ (by first | (simp; done) | (simp; omega)) _ | with_reducible refine G.trans ?_ hb12 | with_reducible refine G.trans ?_ hb11 | with_reducible refine G.trans ?_ hb10 | with_reducible refine G.trans ?_ hb9 | with_reducible refine G.trans ?_ hb8 | with_reducible refine G.trans ?_ hb7 | with_reducible refine G.trans ?_ hb6 | with_reducible refine G.trans ?_ hb5 | with_reducible refine G.trans ?_ hb4 | with_reducible refine G.trans ?_ hb3 | with_reducible refine G.trans ?_ hb2 | with_reducible refine G.trans ?_ hb1 | with_reducible refine G.trans ?_ hb | assumption)⟩
end Go.Proofs.YtoipapcbngknfaaDoor
