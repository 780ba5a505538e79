/- The law DecimalAdds returns true: the walk. -/
import Derived.Test.YtoipapcbngknfaaDoorRef6
import Derived.Test.YtoipapcbngknfaaDoorDKnown
namespace Go.Proofs.YtoipapcbngknfaaDoor
set_option linter.unusedVariables false
set_option linter.unnecessarySimpa false
set_option linter.unusedSimpArgs false
open Go.RowKit

theorem sub_as {n s m t : Int} (h : okN m t = true) : subN n s m t = addN n s (-m) t := by
  unfold subN
  by_cases h1 : okN n s = true
  · rw [if_pos ⟨h1, h⟩]
  · rw [if_neg (fun x => h1 x.1)]
    unfold addN
    rw [if_neg (fun x => h1 x.1)]
theorem sub_bad {n s m t : Int} (h : ¬ okN m t = true) : subN n s m t = addN n s m t := by
  unfold subN addN
  rw [if_neg (fun x => h x.2), if_neg (fun x => h x.2)]

set_option maxRecDepth 20000 in set_option maxHeartbeats 1000000 in
theorem decimalAdds_any (n s m t : Int) (w : World) (h1 : (Lit.int .i64 n).wf = true) (h2 : (Lit.int .i64 m).wf = true) (ht : Pow10 w) :
    Calls Tryd.prog 5 #[.agg #[.int .i64 n, .int .i64 s], .agg #[.int .i64 m, .int .i64 t]] w fun e' w' => e' = .returned (.bool true) ∧ Below w.heap.size w w' := by
  have htt := Lib.hid ht
  have A1 := Lib.hid (fun w => add_any n s m t w h1 h2)
  have S1 := fun w => sub_any n s m t w h1 h2
  have R1 := Lib.hid (fun w => refadd_any n s m t w)
  have I1 := fun w => is_any m t w
  have R2 := Lib.hid (fun w => refadd_any n s (-m) t w)
  have hm : okN m t = true → IntKind.i64.wrap (-m) = -m := fun h => by
    have := okN_iff.1 h
    exact IntWalk.i64_in _ (by omega)
  have hc1 : okN m t = true → subN n s m t = addN n s (-m) t := sub_as
  have hc2 : ¬ okN m t = true → subN n s m t = addN n s m t := sub_bad
  generalize hp : addN n s m t = p at *
  generalize hq : subN n s m t = q at *
  generalize hv : addN n s (-m) t = v at *
  generalize okN m t = bb at *
  replace S1 := Lib.hid S1
  replace I1 := Lib.hid I1
  clear h1 h2 ht hp hq hv
  go_enter Tryd.func5, Tryd.ntmps5
  go_wp2_with fail
  refine (A1.out _).mono ?_
  rintro e' w1 ⟨rfl, hb1⟩
  
  replace k0 := G.cell (a := ⟨w.heap.size, 0, none⟩) (v := .int .i64 n) (by go_simp) hb1
  replace k1 := G.cell (a := ⟨w.heap.size, 1, none⟩) (v := .int .i64 s) (by go_simp) hb1
  replace k2 := G.cell (a := ⟨w.heap.size + 1, 0, none⟩) (v := .int .i64 m) (by go_simp) hb1
  replace k3 := G.cell (a := ⟨w.heap.size + 1, 1, none⟩) (v := .int .i64 t) (by go_simp) hb1
  replace lt0 := cell_lt k0
  replace lt1 := cell_lt k1
  replace lt2 := cell_lt k2
  replace lt3 := cell_lt k3
  go_wp2_with fail
  refine (S1.out _).mono ?_
  rintro e' w2 ⟨rfl, hb2⟩
  
  replace k0 := G.cell (a := ⟨w.heap.size, 0, none⟩) (v := .int .i64 n) (by go_simp) hb2
  replace k1 := G.cell (a := ⟨w.heap.size, 1, none⟩) (v := .int .i64 s) (by go_simp) hb2
  replace k2 := G.cell (a := ⟨w.heap.size + 1, 0, none⟩) (v := .int .i64 m) (by go_simp) hb2
  replace k3 := G.cell (a := ⟨w.heap.size + 1, 1, none⟩) (v := .int .i64 t) (by go_simp) hb2
  replace k4 := G.cell (a := ⟨w1.heap.size, 0, none⟩) (v := .int .i64 p.1) (by go_simp) hb2
  replace k5 := G.cell (a := ⟨w1.heap.size, 1, none⟩) (v := .int .i64 p.2.1) (by go_simp) hb2
  replace lt0 := cell_lt k0
  replace lt1 := cell_lt k1
  replace lt2 := cell_lt k2
  replace lt3 := cell_lt k3
  replace lt4 := cell_lt k4
  replace lt5 := cell_lt k5
  go_wp2_with fail
  refine (R1.out _).mono ?_
  rintro e' w3 ⟨rfl, hb3⟩
  
  replace k0 := G.cell (a := ⟨w.heap.size, 0, none⟩) (v := .int .i64 n) (by go_simp) hb3
  replace k1 := G.cell (a := ⟨w.heap.size, 1, none⟩) (v := .int .i64 s) (by go_simp) hb3
  replace k2 := G.cell (a := ⟨w.heap.size + 1, 0, none⟩) (v := .int .i64 m) (by go_simp) hb3
  replace k3 := G.cell (a := ⟨w.heap.size + 1, 1, none⟩) (v := .int .i64 t) (by go_simp) hb3
  replace k4 := G.cell (a := ⟨w1.heap.size, 0, none⟩) (v := .int .i64 p.1) (by go_simp) hb3
  replace k5 := G.cell (a := ⟨w1.heap.size, 1, none⟩) (v := .int .i64 p.2.1) (by go_simp) hb3
  replace k6 := G.cell (a := ⟨w2.heap.size, 0, none⟩) (v := .int .i64 q.1) (by go_simp) hb3
  replace k7 := G.cell (a := ⟨w2.heap.size, 1, none⟩) (v := .int .i64 q.2.1) (by go_simp) hb3
  replace lt0 := cell_lt k0
  replace lt1 := cell_lt k1
  replace lt2 := cell_lt k2
  replace lt3 := cell_lt k3
  replace lt4 := cell_lt k4
  replace lt5 := cell_lt k5
  replace lt6 := cell_lt k6
  replace lt7 := cell_lt k7
  go_wp2_with fail
  refine (I1.out _).mono ?_
  rintro e' w4 ⟨rfl, hb4⟩
  
  replace k0 := G.cell (a := ⟨w.heap.size, 0, none⟩) (v := .int .i64 n) (by go_simp) hb4
  replace k1 := G.cell (a := ⟨w.heap.size, 1, none⟩) (v := .int .i64 s) (by go_simp) hb4
  replace k2 := G.cell (a := ⟨w.heap.size + 1, 0, none⟩) (v := .int .i64 m) (by go_simp) hb4
  replace k3 := G.cell (a := ⟨w.heap.size + 1, 1, none⟩) (v := .int .i64 t) (by go_simp) hb4
  replace k4 := G.cell (a := ⟨w1.heap.size, 0, none⟩) (v := .int .i64 p.1) (by go_simp) hb4
  replace k5 := G.cell (a := ⟨w1.heap.size, 1, none⟩) (v := .int .i64 p.2.1) (by go_simp) hb4
  replace k6 := G.cell (a := ⟨w2.heap.size, 0, none⟩) (v := .int .i64 q.1) (by go_simp) hb4
  replace k7 := G.cell (a := ⟨w2.heap.size, 1, none⟩) (v := .int .i64 q.2.1) (by go_simp) hb4
  replace k8 := G.cell (a := ⟨w3.heap.size, 0, none⟩) (v := .int .i64 p.1) (by go_simp) hb4
  replace k9 := G.cell (a := ⟨w3.heap.size, 1, none⟩) (v := .int .i64 p.2.1) (by go_simp) hb4
  replace k10 := G.cell (a := ⟨w3.heap.size + 1, 0, none⟩) (v := .int .i64 m) (by go_simp) hb4
  replace k11 := G.cell (a := ⟨w3.heap.size + 1, 1, none⟩) (v := .int .i64 t) (by go_simp) hb4
  replace lt0 := cell_lt k0
  replace lt1 := cell_lt k1
  replace lt2 := cell_lt k2
  replace lt3 := cell_lt k3
  replace lt4 := cell_lt k4
  replace lt5 := cell_lt k5
  replace lt6 := cell_lt k6
  replace lt7 := cell_lt k7
  replace lt8 := cell_lt k8
  replace lt9 := cell_lt k9
  replace lt10 := cell_lt k10
  replace lt11 := cell_lt k11
  have hbw4 : Below w.heap.size w w4 := by repeat (first | with_reducible assumption | with_reducible exact G.refl _ | with_reducible refine G.drew ?_ | with_reducible refine G.drewN ?_ _ | with_reducible refine G.alloc ?_ _ | with_reducible refine Below.setCell ?_ (by first | (simp; done) | (simp; omega)) _ | with_reducible refine G.trans ?_ hb12 | with_reducible refine G.trans ?_ hb11 | with_reducible refine G.trans ?_ hb10 | with_reducible refine G.trans ?_ hb9 | with_reducible refine G.trans ?_ hb8 | with_reducible refine G.trans ?_ hb7 | with_reducible refine G.trans ?_ hb6 | with_reducible refine G.trans ?_ hb5 | with_reducible refine G.trans ?_ hb4 | with_reducible refine G.trans ?_ hb3 | with_reducible refine G.trans ?_ hb2 | with_reducible refine G.trans ?_ hb1 | with_reducible refine G.trans ?_ hb | assumption)
  have ht4 := Lib.hid (htt.out.grow hbw4)
  have hz4 := hb4.size
  have hz3 := hb3.size
  have hz2 := hb2.size
  have hz1 := hb1.size
  simp at hz1 hz2 hz3 hz4
  cases bb
  · have hqp : p = q := (hc2 (by simp)).symm
    subst hqp
    
    clear hc1 hc2 hm
    go_wp2_with fail
    refine (R1.out _).mono ?_
    rintro e' w5 ⟨rfl, hb5⟩
    replace k0 := G.cell (a := ⟨w.heap.size, 0, none⟩) (v := .int .i64 n) (by go_simp) hb5
    replace k1 := G.cell (a := ⟨w.heap.size, 1, none⟩) (v := .int .i64 s) (by go_simp) hb5
    replace k2 := G.cell (a := ⟨w.heap.size + 1, 0, none⟩) (v := .int .i64 m) (by go_simp) hb5
    replace k3 := G.cell (a := ⟨w.heap.size + 1, 1, none⟩) (v := .int .i64 t) (by go_simp) hb5
    replace k4 := G.cell (a := ⟨w1.heap.size, 0, none⟩) (v := .int .i64 p.1) (by go_simp) hb5
    replace k5 := G.cell (a := ⟨w1.heap.size, 1, none⟩) (v := .int .i64 p.2.1) (by go_simp) hb5
    replace k6 := G.cell (a := ⟨w2.heap.size, 0, none⟩) (v := .int .i64 p.1) (by go_simp) hb5
    replace k7 := G.cell (a := ⟨w2.heap.size, 1, none⟩) (v := .int .i64 p.2.1) (by go_simp) hb5
    replace k8 := G.cell (a := ⟨w3.heap.size, 0, none⟩) (v := .int .i64 p.1) (by go_simp) hb5
    replace k9 := G.cell (a := ⟨w3.heap.size, 1, none⟩) (v := .int .i64 p.2.1) (by go_simp) hb5
    replace k10 := G.cell (a := ⟨w3.heap.size + 1, 0, none⟩) (v := .int .i64 m) (by go_simp) hb5
    replace k11 := G.cell (a := ⟨w3.heap.size + 1, 1, none⟩) (v := .int .i64 t) (by go_simp) hb5
    replace lt0 := cell_lt k0
    replace lt1 := cell_lt k1
    replace lt2 := cell_lt k2
    replace lt3 := cell_lt k3
    replace lt4 := cell_lt k4
    replace lt5 := cell_lt k5
    replace lt6 := cell_lt k6
    replace lt7 := cell_lt k7
    replace lt8 := cell_lt k8
    replace lt9 := cell_lt k9
    replace lt10 := cell_lt k10
    replace lt11 := cell_lt k11
    go_wp2_with fail
    refine (known_any _ (ht4.out.grow (by repeat (first | with_reducible assumption | with_reducible exact G.refl _ | with_reducible refine G.drew ?_ | with_reducible refine G.drewN ?_ _ | with_reducible refine G.alloc ?_ _ | with_reducible refine Below.setCell ?_ (by first | (simp; done) | (simp; omega)) _ | with_reducible refine G.trans ?_ hb12 | with_reducible refine G.trans ?_ hb11 | with_reducible refine G.trans ?_ hb10 | with_reducible refine G.trans ?_ hb9 | with_reducible refine G.trans ?_ hb8 | with_reducible refine G.trans ?_ hb7 | with_reducible refine G.trans ?_ hb6 | with_reducible refine G.trans ?_ hb5 | with_reducible refine G.trans ?_ hb4 | with_reducible refine G.trans ?_ hb3 | with_reducible refine G.trans ?_ hb2 | with_reducible refine G.trans ?_ hb1 | with_reducible refine G.trans ?_ hb | assumption)))).mono ?_
    rintro e' w6 ⟨rfl, hb6⟩
    
    replace k0 := G.cell (a := ⟨w.heap.size, 0, none⟩) (v := .int .i64 n) (by go_simp) hb6
    replace k1 := G.cell (a := ⟨w.heap.size, 1, none⟩) (v := .int .i64 s) (by go_simp) hb6
    replace k2 := G.cell (a := ⟨w.heap.size + 1, 0, none⟩) (v := .int .i64 m) (by go_simp) hb6
    replace k3 := G.cell (a := ⟨w.heap.size + 1, 1, none⟩) (v := .int .i64 t) (by go_simp) hb6
    replace k4 := G.cell (a := ⟨w1.heap.size, 0, none⟩) (v := .int .i64 p.1) (by go_simp) hb6
    replace k5 := G.cell (a := ⟨w1.heap.size, 1, none⟩) (v := .int .i64 p.2.1) (by go_simp) hb6
    replace k6 := G.cell (a := ⟨w2.heap.size, 0, none⟩) (v := .int .i64 p.1) (by go_simp) hb6
    replace k7 := G.cell (a := ⟨w2.heap.size, 1, none⟩) (v := .int .i64 p.2.1) (by go_simp) hb6
    replace k8 := G.cell (a := ⟨w3.heap.size, 0, none⟩) (v := .int .i64 p.1) (by go_simp) hb6
    replace k9 := G.cell (a := ⟨w3.heap.size, 1, none⟩) (v := .int .i64 p.2.1) (by go_simp) hb6
    replace k10 := G.cell (a := ⟨w3.heap.size + 1, 0, none⟩) (v := .int .i64 m) (by go_simp) hb6
    replace k11 := G.cell (a := ⟨w3.heap.size + 1, 1, none⟩) (v := .int .i64 t) (by go_simp) hb6
    replace k12 := G.cell (a := ⟨w5.heap.size, 0, none⟩) (v := .int .i64 p.1) (by go_simp) hb6
    replace k13 := G.cell (a := ⟨w5.heap.size, 1, none⟩) (v := .int .i64 p.2.1) (by go_simp) hb6
    replace lt0 := cell_lt k0
    replace lt1 := cell_lt k1
    replace lt2 := cell_lt k2
    replace lt3 := cell_lt k3
    replace lt4 := cell_lt k4
    replace lt5 := cell_lt k5
    replace lt6 := cell_lt k6
    replace lt7 := cell_lt k7
    replace lt8 := cell_lt k8
    replace lt9 := cell_lt k9
    replace lt10 := cell_lt k10
    replace lt11 := cell_lt k11
    replace lt12 := cell_lt k12
    replace lt13 := cell_lt k13
    go_wp2_with fail
    go_ret
    exact ⟨rfl, by repeat (first | with_reducible assumption | with_reducible exact G.refl _ | with_reducible refine G.drew ?_ | with_reducible refine G.drewN ?_ _ | with_reducible refine G.alloc ?_ _ | with_reducible refine Below.setCell ?_ (by first | (simp; done) | (simp; omega)) _ | with_reducible refine G.trans ?_ hb12 | with_reducible refine G.trans ?_ hb11 | with_reducible refine G.trans ?_ hb10 | with_reducible refine G.trans ?_ hb9 | with_reducible refine G.trans ?_ hb8 | with_reducible refine G.trans ?_ hb7 | with_reducible refine G.trans ?_ hb6 | with_reducible refine G.trans ?_ hb5 | with_reducible refine G.trans ?_ hb4 | with_reducible refine G.trans ?_ hb3 | with_reducible refine G.trans ?_ hb2 | with_reducible refine G.trans ?_ hb1 | with_reducible refine G.trans ?_ hb | assumption)⟩
  · have hqv : q = v := hc1 rfl
    subst hqv
    have hmw := hm rfl
    have z9 : w4.frozen? ⟨w3.heap.size + 1, 0, none⟩ = false := by
      obtain ⟨hc, hf⟩ := G.old hb4
      exact (hf _ _ (by simp)).trans (by go_simp)
    clear hc1 hc2 hm
    go_wp2_with fail
    refine (R2.out _).mono ?_
    rintro e' w5 ⟨rfl, hb5⟩
    
    replace k0 := G.cell (a := ⟨w.heap.size, 0, none⟩) (v := .int .i64 n) (by go_simp) hb5
    replace k1 := G.cell (a := ⟨w.heap.size, 1, none⟩) (v := .int .i64 s) (by go_simp) hb5
    replace k2 := G.cell (a := ⟨w.heap.size + 1, 0, none⟩) (v := .int .i64 m) (by go_simp) hb5
    replace k3 := G.cell (a := ⟨w.heap.size + 1, 1, none⟩) (v := .int .i64 t) (by go_simp) hb5
    replace k4 := G.cell (a := ⟨w1.heap.size, 0, none⟩) (v := .int .i64 p.1) (by go_simp) hb5
    replace k5 := G.cell (a := ⟨w1.heap.size, 1, none⟩) (v := .int .i64 p.2.1) (by go_simp) hb5
    replace k6 := G.cell (a := ⟨w2.heap.size, 0, none⟩) (v := .int .i64 q.1) (by go_simp) hb5
    replace k7 := G.cell (a := ⟨w2.heap.size, 1, none⟩) (v := .int .i64 q.2.1) (by go_simp) hb5
    replace k8 := G.cell (a := ⟨w3.heap.size, 0, none⟩) (v := .int .i64 p.1) (by go_simp) hb5
    replace k9 := G.cell (a := ⟨w3.heap.size, 1, none⟩) (v := .int .i64 p.2.1) (by go_simp) hb5
    replace k10 := G.cell (a := ⟨w3.heap.size + 1, 0, none⟩) (v := .int .i64 (-m)) (by go_simp) hb5
    replace k11 := G.cell (a := ⟨w3.heap.size + 1, 1, none⟩) (v := .int .i64 t) (by go_simp) hb5
    replace lt0 := cell_lt k0
    replace lt1 := cell_lt k1
    replace lt2 := cell_lt k2
    replace lt3 := cell_lt k3
    replace lt4 := cell_lt k4
    replace lt5 := cell_lt k5
    replace lt6 := cell_lt k6
    replace lt7 := cell_lt k7
    replace lt8 := cell_lt k8
    replace lt9 := cell_lt k9
    replace lt10 := cell_lt k10
    replace lt11 := cell_lt k11
    have hbw5 : Below w.heap.size w w5 := G.trans (hbw4.setCell (by simp; omega) _) hb5
    go_wp2_with fail
    refine (known_any _ (htt.out.grow (by repeat (first | with_reducible assumption | with_reducible exact G.refl _ | with_reducible refine G.drew ?_ | with_reducible refine G.drewN ?_ _ | with_reducible refine G.alloc ?_ _ | with_reducible refine Below.setCell ?_ (by first | (simp; done) | (simp; omega)) _ | with_reducible refine G.trans ?_ hb12 | with_reducible refine G.trans ?_ hb11 | with_reducible refine G.trans ?_ hb10 | with_reducible refine G.trans ?_ hb9 | with_reducible refine G.trans ?_ hb8 | with_reducible refine G.trans ?_ hb7 | with_reducible refine G.trans ?_ hb6 | with_reducible refine G.trans ?_ hb5 | with_reducible refine G.trans ?_ hb4 | with_reducible refine G.trans ?_ hb3 | with_reducible refine G.trans ?_ hb2 | with_reducible refine G.trans ?_ hb1 | with_reducible refine G.trans ?_ hb | assumption)))).mono ?_
    rintro e' w6 ⟨rfl, hb6⟩
    
    replace k0 := G.cell (a := ⟨w.heap.size, 0, none⟩) (v := .int .i64 n) (by go_simp) hb6
    replace k1 := G.cell (a := ⟨w.heap.size, 1, none⟩) (v := .int .i64 s) (by go_simp) hb6
    replace k2 := G.cell (a := ⟨w.heap.size + 1, 0, none⟩) (v := .int .i64 m) (by go_simp) hb6
    replace k3 := G.cell (a := ⟨w.heap.size + 1, 1, none⟩) (v := .int .i64 t) (by go_simp) hb6
    replace k4 := G.cell (a := ⟨w1.heap.size, 0, none⟩) (v := .int .i64 p.1) (by go_simp) hb6
    replace k5 := G.cell (a := ⟨w1.heap.size, 1, none⟩) (v := .int .i64 p.2.1) (by go_simp) hb6
    replace k6 := G.cell (a := ⟨w2.heap.size, 0, none⟩) (v := .int .i64 q.1) (by go_simp) hb6
    replace k7 := G.cell (a := ⟨w2.heap.size, 1, none⟩) (v := .int .i64 q.2.1) (by go_simp) hb6
    replace k8 := G.cell (a := ⟨w3.heap.size, 0, none⟩) (v := .int .i64 p.1) (by go_simp) hb6
    replace k9 := G.cell (a := ⟨w3.heap.size, 1, none⟩) (v := .int .i64 p.2.1) (by go_simp) hb6
    replace k10 := G.cell (a := ⟨w3.heap.size + 1, 0, none⟩) (v := .int .i64 (-m)) (by go_simp) hb6
    replace k11 := G.cell (a := ⟨w3.heap.size + 1, 1, none⟩) (v := .int .i64 t) (by go_simp) hb6
    replace k12 := G.cell (a := ⟨w5.heap.size, 0, none⟩) (v := .int .i64 q.1) (by go_simp) hb6
    replace k13 := G.cell (a := ⟨w5.heap.size, 1, none⟩) (v := .int .i64 q.2.1) (by go_simp) hb6
    replace lt0 := cell_lt k0
    replace lt1 := cell_lt k1
    replace lt2 := cell_lt k2
    replace lt3 := cell_lt k3
    replace lt4 := cell_lt k4
    replace lt5 := cell_lt k5
    replace lt6 := cell_lt k6
    replace lt7 := cell_lt k7
    replace lt8 := cell_lt k8
    replace lt9 := cell_lt k9
    replace lt10 := cell_lt k10
    replace lt11 := cell_lt k11
    replace lt12 := cell_lt k12
    replace lt13 := cell_lt k13
    go_wp2_with fail
    go_ret
    exact ⟨rfl, by repeat (first | with_reducible assumption | with_reducible exact G.refl _ | with_reducible refine G.drew ?_ | with_reducible refine G.drewN ?_ _ | with_reducible refine G.alloc ?_ _ | with_reducible refine Below.setCell ?_ (by first | (simp; done) | (simp; omega)) _ | with_reducible refine G.trans ?_ hb12 | with_reducible refine G.trans ?_ hb11 | with_reducible refine G.trans ?_ hb10 | with_reducible refine G.trans ?_ hb9 | with_reducible refine G.trans ?_ hb8 | with_reducible refine G.trans ?_ hb7 | with_reducible refine G.trans ?_ hb6 | with_reducible refine G.trans ?_ hb5 | with_reducible refine G.trans ?_ hb4 | with_reducible refine G.trans ?_ hb3 | with_reducible refine G.trans ?_ hb2 | with_reducible refine G.trans ?_ hb1 | with_reducible refine G.trans ?_ hb | assumption)⟩
end Go.Proofs.YtoipapcbngknfaaDoor
