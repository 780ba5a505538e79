/- The law DecimalOrders returns true: the walk. -/
import Derived.Test.YtoipapcbngknfaaDoorDCmp
import Derived.Test.YtoipapcbngknfaaDoorDKnown
namespace Go.Proofs.YtoipapcbngknfaaDoor
set_option linter.unusedVariables false
set_option linter.unnecessarySimpa false
set_option linter.unusedSimpArgs false
open Go.RowKit

theorem cmpN_bad1 {n s m t : Int} (h : ¬ okN n s = true) : cmpN n s m t = (0, 2) := if_neg fun x => h x.1
theorem cmpN_bad2 {n s m t : Int} (h : ¬ okN m t = true) : cmpN n s m t = (0, 2) := if_neg fun x => h x.2
theorem cmpN_ok {n s m t : Int} (h : okN n s = true) (h' : okN m t = true) : cmpN n s m t = (cmpI (valN n s) (valN m t), 0) := if_pos ⟨h, h'⟩
set_option maxRecDepth 20000 in set_option maxHeartbeats 2000000 in
theorem decimalOrders_any (n1 s1 n2 s2 n3 s3 : Int) (w : World) (h1 : (Lit.int .i64 n1).wf = true) (h2 : (Lit.int .i64 n2).wf = true) (h3 : (Lit.int .i64 n3).wf = true) (ht : Pow10 w) :
    Calls Tryd.prog 9 #[.agg #[.int .i64 n1, .int .i64 s1], .agg #[.int .i64 n2, .int .i64 s2], .agg #[.int .i64 n3, .int .i64 s3]] w fun e' w' => e' = .returned (.bool true) ∧ Below w.heap.size w w' := by
  have htt := Lib.hid ht
  have C1 := fun w => compare_any n1 s1 n2 s2 w h1 h2
  have C2 := fun w => compare_any n2 s2 n3 s3 w h2 h3
  have C3 := fun w => compare_any n1 s1 n3 s3 w h1 h3
  have C4 := fun w => compare_any n2 s2 n1 s1 w h2 h1
  have C5 := fun w => compare_any n1 s1 n1 s1 w h1 h1
  have hcase : ((cmpN n1 s1 n2 s2).1 = 0 ∧ (cmpN n1 s1 n2 s2).2 = 2) ∨
      ((cmpN n1 s1 n2 s2).2 = 0 ∧ ((cmpN n1 s1 n2 s2).1 = -1 ∨ (cmpN n1 s1 n2 s2).1 = 0 ∨ (cmpN n1 s1 n2 s2).1 = 1) ∧ (cmpN n2 s2 n3 s3).1 = 0 ∧ (cmpN n2 s2 n3 s3).2 = 2) ∨
      ((cmpN n1 s1 n2 s2).2 = 0 ∧ (cmpN n2 s2 n3 s3).2 = 0 ∧ (cmpN n1 s1 n3 s3).2 = 0 ∧ (cmpN n2 s2 n1 s1).2 = 0 ∧ (cmpN n1 s1 n1 s1).2 = 0 ∧ (cmpN n1 s1 n1 s1).1 = 0 ∧ (cmpN n2 s2 n1 s1).1 = -(cmpN n1 s1 n2 s2).1 ∧
        ((cmpN n1 s1 n2 s2).1 = -1 ∨ (cmpN n1 s1 n2 s2).1 = 0 ∨ (cmpN n1 s1 n2 s2).1 = 1) ∧ ((cmpN n2 s2 n3 s3).1 = -1 ∨ (cmpN n2 s2 n3 s3).1 = 0 ∨ (cmpN n2 s2 n3 s3).1 = 1) ∧ ((cmpN n1 s1 n3 s3).1 = -1 ∨ (cmpN n1 s1 n3 s3).1 = 0 ∨ (cmpN n1 s1 n3 s3).1 = 1) ∧
        Tri (cmpN n1 s1 n2 s2).1 (cmpN n2 s2 n3 s3).1 (cmpN n1 s1 n3 s3).1) := by
    by_cases o1 : okN n1 s1 = true
    · by_cases o2 : okN n2 s2 = true
      · by_cases o3 : okN n3 s3 = true
        · right; right
          rw [cmpN_ok o1 o2, cmpN_ok o2 o3, cmpN_ok o1 o3, cmpN_ok o2 o1, cmpN_ok o1 o1]
          exact ⟨rfl, rfl, rfl, rfl, rfl, cmpI_zero.2 rfl, cmpI_neg _ _, cmpI_cases _ _, cmpI_cases _ _, cmpI_cases _ _, cmpI_tri _ _ _⟩
        · right; left
          rw [cmpN_ok o1 o2, cmpN_bad2 o3]
          exact ⟨rfl, cmpI_cases _ _, rfl, rfl⟩
      · left
        rw [cmpN_bad2 o2]; exact ⟨rfl, rfl⟩
    · left
      rw [cmpN_bad1 o1]; exact ⟨rfl, rfl⟩
  generalize (cmpN n1 s1 n2 s2).1 = x1 at *
  generalize (cmpN n1 s1 n2 s2).2 = e1 at *
  generalize (cmpN n2 s2 n3 s3).1 = x2 at *
  generalize (cmpN n2 s2 n3 s3).2 = e2 at *
  generalize (cmpN n1 s1 n3 s3).1 = x3 at *
  generalize (cmpN n1 s1 n3 s3).2 = e3 at *
  generalize (cmpN n2 s2 n1 s1).1 = x4 at *
  generalize (cmpN n2 s2 n1 s1).2 = e4 at *
  generalize (cmpN n1 s1 n1 s1).1 = x5 at *
  generalize (cmpN n1 s1 n1 s1).2 = e5 at *
  replace C1 := Lib.hid C1
  replace C2 := Lib.hid C2
  replace C3 := Lib.hid C3
  replace C4 := Lib.hid C4
  replace C5 := Lib.hid C5
  have H := Lib.hid hcase
  clear h1 h2 h3 ht hcase
  go_enter Tryd.func9, Tryd.ntmps9
  go_wp2_with fail
  refine (C1.out _).mono ?_
  rintro e' w1 ⟨rfl, hb1⟩
  
  replace k0 := G.cell (a := ⟨w.heap.size, 0, none⟩) (v := .int .i64 n1) (by go_simp) hb1
  replace k1 := G.cell (a := ⟨w.heap.size, 1, none⟩) (v := .int .i64 s1) (by go_simp) hb1
  replace k2 := G.cell (a := ⟨w.heap.size + 1, 0, none⟩) (v := .int .i64 n2) (by go_simp) hb1
  replace k3 := G.cell (a := ⟨w.heap.size + 1, 1, none⟩) (v := .int .i64 s2) (by go_simp) hb1
  replace k4 := G.cell (a := ⟨w.heap.size + 1 + 1, 0, none⟩) (v := .int .i64 n3) (by go_simp) hb1
  replace k5 := G.cell (a := ⟨w.heap.size + 1 + 1, 1, none⟩) (v := .int .i64 s3) (by go_simp) hb1
  replace lt0 := cell_lt k0
  replace lt1 := cell_lt k1
  replace lt2 := cell_lt k2
  replace lt3 := cell_lt k3
  replace lt4 := cell_lt k4
  replace lt5 := cell_lt k5
  go_wp2_with fail
  refine (C2.out _).mono ?_
  rintro e' w2 ⟨rfl, hb2⟩
  replace k0 := G.cell (a := ⟨w.heap.size, 0, none⟩) (v := .int .i64 n1) (by go_simp) hb2
  replace k1 := G.cell (a := ⟨w.heap.size, 1, none⟩) (v := .int .i64 s1) (by go_simp) hb2
  replace k2 := G.cell (a := ⟨w.heap.size + 1, 0, none⟩) (v := .int .i64 n2) (by go_simp) hb2
  replace k3 := G.cell (a := ⟨w.heap.size + 1, 1, none⟩) (v := .int .i64 s2) (by go_simp) hb2
  replace k4 := G.cell (a := ⟨w.heap.size + 1 + 1, 0, none⟩) (v := .int .i64 n3) (by go_simp) hb2
  replace k5 := G.cell (a := ⟨w.heap.size + 1 + 1, 1, none⟩) (v := .int .i64 s3) (by go_simp) hb2
  replace lt0 := cell_lt k0
  replace lt1 := cell_lt k1
  replace lt2 := cell_lt k2
  replace lt3 := cell_lt k3
  replace lt4 := cell_lt k4
  replace lt5 := cell_lt k5
  go_wp2_with fail
  refine (C3.out _).mono ?_
  rintro e' w3 ⟨rfl, hb3⟩
  replace k0 := G.cell (a := ⟨w.heap.size, 0, none⟩) (v := .int .i64 n1) (by go_simp) hb3
  replace k1 := G.cell (a := ⟨w.heap.size, 1, none⟩) (v := .int .i64 s1) (by go_simp) hb3
  replace k2 := G.cell (a := ⟨w.heap.size + 1, 0, none⟩) (v := .int .i64 n2) (by go_simp) hb3
  replace k3 := G.cell (a := ⟨w.heap.size + 1, 1, none⟩) (v := .int .i64 s2) (by go_simp) hb3
  replace k4 := G.cell (a := ⟨w.heap.size + 1 + 1, 0, none⟩) (v := .int .i64 n3) (by go_simp) hb3
  replace k5 := G.cell (a := ⟨w.heap.size + 1 + 1, 1, none⟩) (v := .int .i64 s3) (by go_simp) hb3
  replace lt0 := cell_lt k0
  replace lt1 := cell_lt k1
  replace lt2 := cell_lt k2
  replace lt3 := cell_lt k3
  replace lt4 := cell_lt k4
  replace lt5 := cell_lt k5
  go_wp2_with fail
  refine (C4.out _).mono ?_
  rintro e' w4 ⟨rfl, hb4⟩
  replace k0 := G.cell (a := ⟨w.heap.size, 0, none⟩) (v := .int .i64 n1) (by go_simp) hb4
  replace k1 := G.cell (a := ⟨w.heap.size, 1, none⟩) (v := .int .i64 s1) (by go_simp) hb4
  replace k2 := G.cell (a := ⟨w.heap.size + 1, 0, none⟩) (v := .int .i64 n2) (by go_simp) hb4
  replace k3 := G.cell (a := ⟨w.heap.size + 1, 1, none⟩) (v := .int .i64 s2) (by go_simp) hb4
  replace k4 := G.cell (a := ⟨w.heap.size + 1 + 1, 0, none⟩) (v := .int .i64 n3) (by go_simp) hb4
  replace k5 := G.cell (a := ⟨w.heap.size + 1 + 1, 1, none⟩) (v := .int .i64 s3) (by go_simp) hb4
  replace lt0 := cell_lt k0
  replace lt1 := cell_lt k1
  replace lt2 := cell_lt k2
  replace lt3 := cell_lt k3
  replace lt4 := cell_lt k4
  replace lt5 := cell_lt k5
  go_wp2_with fail
  refine (C5.out _).mono ?_
  rintro e' w5 ⟨rfl, hb5⟩
  go_wp2_with fail
  refine (known_any _ (htt.out.grow (by repeat (first | with_reducible assumption | with_reducible exact G.refl _ | with_reducible refine G.drew ?_ | with_reducible refine G.drewN ?_ _ | with_reducible refine G.alloc ?_ _ | with_reducible refine Below.setCell ?_ (by first | (simp; done) | (simp; omega)) _ | with_reducible refine G.trans ?_ hb12 | with_reducible refine G.trans ?_ hb11 | with_reducible refine G.trans ?_ hb10 | with_reducible refine G.trans ?_ hb9 | with_reducible refine G.trans ?_ hb8 | with_reducible refine G.trans ?_ hb7 | with_reducible refine G.trans ?_ hb6 | with_reducible refine G.trans ?_ hb5 | with_reducible refine G.trans ?_ hb4 | with_reducible refine G.trans ?_ hb3 | with_reducible refine G.trans ?_ hb2 | with_reducible refine G.trans ?_ hb1 | with_reducible refine G.trans ?_ hb | assumption)))).mono ?_
  rintro e' w6 ⟨rfl, hb6⟩
  have hbw : Below w.heap.size w w6 := by repeat (first | with_reducible assumption | with_reducible exact G.refl _ | with_reducible refine G.drew ?_ | with_reducible refine G.drewN ?_ _ | with_reducible refine G.alloc ?_ _ | with_reducible refine Below.setCell ?_ (by first | (simp; done) | (simp; omega)) _ | with_reducible refine G.trans ?_ hb12 | with_reducible refine G.trans ?_ hb11 | with_reducible refine G.trans ?_ hb10 | with_reducible refine G.trans ?_ hb9 | with_reducible refine G.trans ?_ hb8 | with_reducible refine G.trans ?_ hb7 | with_reducible refine G.trans ?_ hb6 | with_reducible refine G.trans ?_ hb5 | with_reducible refine G.trans ?_ hb4 | with_reducible refine G.trans ?_ hb3 | with_reducible refine G.trans ?_ hb2 | with_reducible refine G.trans ?_ hb1 | with_reducible refine G.trans ?_ hb | assumption)
  clear k0 k1 k2 k3 k4 k5 lt0 lt1 lt2 lt3 lt4 lt5 hb1 hb2 hb3 hb4 hb5 hb6
  rcases H.out with ⟨rfl, rfl⟩ | ⟨rfl, hx, rfl, rfl⟩ | ⟨rfl, rfl, rfl, rfl, rfl, rfl, rfl, hx, hy, hz, htri⟩
  · go_wp2
    go_ret
    exact ⟨rfl, hbw⟩
  · rcases hx with rfl | rfl | rfl
    all_goals
      go_wp2
      go_ret
      exact ⟨rfl, hbw⟩
  · have hT := Lib.hid htri
    clear htri
    rcases hx with rfl | rfl | rfl <;> rcases hy with rfl | rfl | rfl <;> rcases hz with rfl | rfl | rfl <;> first
      | (exfalso; have := hT.out; simp only [Tri] at this; omega)
      | (go_wp2; go_ret; exact ⟨rfl, hbw⟩)
end Go.Proofs.YtoipapcbngknfaaDoor
