/- The law DecimalCompares returns true: the walk. -/
import Derived.Test.YtoipapcbngknfaaDoorRef7
import Derived.Test.YtoipapcbngknfaaDoorDKnown
import Derived.Test.YtoipapcbngknfaaDoorLawAdds
namespace Go.Proofs.YtoipapcbngknfaaDoor
set_option linter.unusedVariables false
set_option linter.unnecessarySimpa false
set_option linter.unusedSimpArgs false
open Go.RowKit

theorem cmpI_sub (x y : Int) : cmpI (x - y) 0 = cmpI x y := by unfold cmpI; (repeat' split) <;> omega
/-- What Sub says of valid numbers. -/
theorem sub_cmp {n s m t : Int} (h1 : okN n s = true) (h2 : okN m t = true) :
    (subN n s m t).2.2 = 14 ∨ ((subN n s m t).2.2 = 0 ∧ okN (subN n s m t).1 (subN n s m t).2.1 = true ∧ cmpI (valN (subN n s m t).1 (subN n s m t).2.1) (valN 0 0) = cmpI (valN n s) (valN m t)) := by
  have hm := okN_iff.1 h2
  have hm' : okN (-m) t = true := okN_iff.2 ⟨by omega, by omega, by omega, by omega⟩
  have e : subN n s m t = fitN (n * p10 (max s.toNat t.toNat - s.toNat) + -m * p10 (max s.toNat t.toNat - t.toNat)) ((max s.toNat t.toNat : Nat) : Int) := by
    rw [sub_as h2]
    exact if_pos ⟨h1, hm'⟩
  rw [e]
  obtain ⟨j, rfl, hj, _⟩ := okN_nat h1
  obtain ⟨i, rfl, hi, _⟩ := okN_nat h2
  simp only [Int.toNat_natCast]
  have hsc : max j i ≤ 12 := by omega
  have hjs : j ≤ max j i := by omega
  have his : i ≤ max j i := by omega
  generalize max j i = sc at *
  have hv : (n * p10 (sc - j) + -m * p10 (sc - i)) * p10 (12 - sc) = valN n j - valN m i := by
    rw [val_scale hjs hsc, val_scale his hsc, Int.add_mul, Int.neg_mul, Int.neg_mul]
    omega
  generalize n * p10 (sc - j) + -m * p10 (sc - i) = S at *
  unfold fitN
  by_cases h : -999999999999999 ≤ S ∧ S ≤ 999999999999999
  · right
    rw [if_pos h]
    refine ⟨rfl, okN_iff.2 ⟨h.1, h.2, by simp, by simp; omega⟩, ?_⟩
    have e1 : valN S (sc : Int) = S * p10 (12 - sc) := by unfold valN; rw [Int.toNat_natCast]
    have e2 : valN 0 0 = 0 := by unfold valN; simp
    simp only [e1, e2]
    rw [hv]
    exact cmpI_sub _ _
  · left
    rw [if_neg h]
set_option maxRecDepth 20000 in set_option maxHeartbeats 1000000 in
theorem decimalCompares_any (n s m t : Int) (w : World) (h1 : (Lit.int .i64 n).wf = true) (h2 : (Lit.int .i64 m).wf = true) (ht : Pow10 w) :
    Calls Tryd.prog 10 #[.agg #[.int .i64 n, .int .i64 s], .agg #[.int .i64 m, .int .i64 t]] w fun e' w' => e' = .returned (.bool true) ∧ Below w.heap.size w w' := by
  have htt := Lib.hid ht
  have C1 := fun w => compare_any n s m t w h1 h2
  have S1 := fun w => sub_any n s m t w h1 h2
  have I1 := fun w => is_any n s w
  have I2 := fun w => is_any m t w
  have hcase : (okN n s = false ∧ (cmpN n s m t).1 = 0 ∧ (cmpN n s m t).2 = 2 ∧ (subN n s m t).2.2 = 2) ∨ (okN n s = true ∧ okN m t = false ∧ (cmpN n s m t).1 = 0 ∧ (cmpN n s m t).2 = 2 ∧ (subN n s m t).2.2 = 2) ∨
      (okN n s = true ∧ okN m t = true ∧ (cmpN n s m t).2 = 0 ∧ (∀ w, Calls Tryd.prog 35 #[.agg #[.int .i64 n, .int .i64 s], .agg #[.int .i64 m, .int .i64 t]] w fun e w' => e = .returned (.int .i64 (cmpN n s m t).1) ∧ Below w.heap.size w w') ∧
        ((subN n s m t).2.2 = 14 ∨ ((subN n s m t).2.2 = 0 ∧ ∀ w, Calls Tryd.prog 35 #[.agg #[.int .i64 (subN n s m t).1, .int .i64 (subN n s m t).2.1], .agg #[.int .i64 0, .int .i64 0]] w fun e w' => e = .returned (.int .i64 (cmpN n s m t).1) ∧ Below w.heap.size w w'))) := by
    by_cases o1 : okN n s = true
    · by_cases o2 : okN m t = true
      · right; right
        rw [show cmpN n s m t = (cmpI (valN n s) (valN m t), 0) from if_pos ⟨o1, o2⟩]
        refine ⟨o1, o2, rfl, fun w => refcmp_any n s m t w o1 o2, ?_⟩
        rcases sub_cmp o1 o2 with h | ⟨h3, h4, h5⟩
        · exact .inl h
        · refine .inr ⟨h3, fun w => ?_⟩
          have := refcmp_any (subN n s m t).1 (subN n s m t).2.1 0 0 w h4 (by decide)
          rwa [h5] at this
      · right; left
        rw [show cmpN n s m t = (0, 2) from if_neg fun x => o2 x.2, show subN n s m t = (0, 0, 2) from if_neg fun x => o2 x.2]
        exact ⟨o1, by simpa using o2, rfl, rfl, rfl⟩
    · left
      rw [show cmpN n s m t = (0, 2) from if_neg fun x => o1 x.1, show subN n s m t = (0, 0, 2) from if_neg fun x => o1 x.1]
      exact ⟨by simpa using o1, rfl, rfl, rfl⟩
  unfold RetF RetN at S1
  generalize (cmpN n s m t).1 = k at *
  generalize (cmpN n s m t).2 = e at *
  generalize (subN n s m t).1 = d1 at *
  generalize (subN n s m t).2.1 = d2 at *
  generalize (subN n s m t).2.2 = f at *
  generalize okN n s = p at *
  generalize okN m t = q at *
  replace C1 := Lib.hid C1
  replace S1 := Lib.hid S1
  replace I1 := Lib.hid I1
  replace I2 := Lib.hid I2
  have H := Lib.hid hcase
  clear h1 h2 ht hcase
  go_enter Tryd.func10, Tryd.ntmps10
  go_wp2_with fail
  refine (C1.out _).mono ?_
  rintro e' w1 ⟨rfl, hb1⟩
  
  replace k0 := G.cell (a := ⟨w.heap.size, 0, none⟩) (v := .int .i64 n) (by go_simp) hb1
  replace k1 := G.cell (a := ⟨w.heap.size, 1, none⟩) (v := .int .i64 s) (by go_simp) hb1
  replace k2 := G.cell (a := ⟨w.heap.size + 1, 0, none⟩) (v := .int .i64 m) (by go_simp) hb1
  replace k3 := G.cell (a := ⟨w.heap.size + 1, 1, none⟩) (v := .int .i64 t) (by go_simp) hb1
  replace lt0 := cell_lt k0
  replace lt1 := cell_lt k1
  replace lt2 := cell_lt k2
  replace lt3 := cell_lt k3
  go_wp2_with fail
  refine (S1.out _).mono ?_
  rintro e' w2 ⟨rfl, hb2⟩
  replace k0 := G.cell (a := ⟨w.heap.size, 0, none⟩) (v := .int .i64 n) (by go_simp) hb2
  replace k1 := G.cell (a := ⟨w.heap.size, 1, none⟩) (v := .int .i64 s) (by go_simp) hb2
  replace k2 := G.cell (a := ⟨w.heap.size + 1, 0, none⟩) (v := .int .i64 m) (by go_simp) hb2
  replace k3 := G.cell (a := ⟨w.heap.size + 1, 1, none⟩) (v := .int .i64 t) (by go_simp) hb2
  replace lt0 := cell_lt k0
  replace lt1 := cell_lt k1
  replace lt2 := cell_lt k2
  replace lt3 := cell_lt k3
  go_wp2_with fail
  refine (known_any _ (htt.out.grow (by repeat (first | with_reducible assumption | with_reducible exact G.refl _ | with_reducible refine G.drew ?_ | with_reducible refine G.drewN ?_ _ | with_reducible refine G.alloc ?_ _ | with_reducible refine Below.setCell ?_ (by first | (simp; done) | (simp; omega)) _ | with_reducible refine G.trans ?_ hb12 | with_reducible refine G.trans ?_ hb11 | with_reducible refine G.trans ?_ hb10 | with_reducible refine G.trans ?_ hb9 | with_reducible refine G.trans ?_ hb8 | with_reducible refine G.trans ?_ hb7 | with_reducible refine G.trans ?_ hb6 | with_reducible refine G.trans ?_ hb5 | with_reducible refine G.trans ?_ hb4 | with_reducible refine G.trans ?_ hb3 | with_reducible refine G.trans ?_ hb2 | with_reducible refine G.trans ?_ hb1 | with_reducible refine G.trans ?_ hb | assumption)))).mono ?_
  rintro e' w3 ⟨rfl, hb3⟩
  
  replace k0 := G.cell (a := ⟨w.heap.size, 0, none⟩) (v := .int .i64 n) (by go_simp) hb3
  replace k1 := G.cell (a := ⟨w.heap.size, 1, none⟩) (v := .int .i64 s) (by go_simp) hb3
  replace k2 := G.cell (a := ⟨w.heap.size + 1, 0, none⟩) (v := .int .i64 m) (by go_simp) hb3
  replace k3 := G.cell (a := ⟨w.heap.size + 1, 1, none⟩) (v := .int .i64 t) (by go_simp) hb3
  replace k4 := G.cell (a := ⟨w2.heap.size, 0, none⟩) (v := .int .i64 d1) (by go_simp) hb3
  replace k5 := G.cell (a := ⟨w2.heap.size, 1, none⟩) (v := .int .i64 d2) (by go_simp) hb3
  replace lt0 := cell_lt k0
  replace lt1 := cell_lt k1
  replace lt2 := cell_lt k2
  replace lt3 := cell_lt k3
  replace lt4 := cell_lt k4
  replace lt5 := cell_lt k5
  go_wp2_with fail
  refine (I1.out _).mono ?_
  rintro e' w4 ⟨rfl, hb4⟩
  replace k0 := G.cell (a := ⟨w.heap.size, 0, none⟩) (v := .int .i64 n) (by go_simp) hb4
  replace k1 := G.cell (a := ⟨w.heap.size, 1, none⟩) (v := .int .i64 s) (by go_simp) hb4
  replace k2 := G.cell (a := ⟨w.heap.size + 1, 0, none⟩) (v := .int .i64 m) (by go_simp) hb4
  replace k3 := G.cell (a := ⟨w.heap.size + 1, 1, none⟩) (v := .int .i64 t) (by go_simp) hb4
  replace k4 := G.cell (a := ⟨w2.heap.size, 0, none⟩) (v := .int .i64 d1) (by go_simp) hb4
  replace k5 := G.cell (a := ⟨w2.heap.size, 1, none⟩) (v := .int .i64 d2) (by go_simp) hb4
  replace lt0 := cell_lt k0
  replace lt1 := cell_lt k1
  replace lt2 := cell_lt k2
  replace lt3 := cell_lt k3
  replace lt4 := cell_lt k4
  replace lt5 := cell_lt k5
  have hbw : Below w.heap.size w w4 := by repeat (first | with_reducible assumption | with_reducible exact G.refl _ | with_reducible refine G.drew ?_ | with_reducible refine G.drewN ?_ _ | with_reducible refine G.alloc ?_ _ | with_reducible refine Below.setCell ?_ (by first | (simp; done) | (simp; omega)) _ | with_reducible refine G.trans ?_ hb12 | with_reducible refine G.trans ?_ hb11 | with_reducible refine G.trans ?_ hb10 | with_reducible refine G.trans ?_ hb9 | with_reducible refine G.trans ?_ hb8 | with_reducible refine G.trans ?_ hb7 | with_reducible refine G.trans ?_ hb6 | with_reducible refine G.trans ?_ hb5 | with_reducible refine G.trans ?_ hb4 | with_reducible refine G.trans ?_ hb3 | with_reducible refine G.trans ?_ hb2 | with_reducible refine G.trans ?_ hb1 | with_reducible refine G.trans ?_ hb | assumption)
  clear hb1 hb2 hb3 hb4
  rcases H.out with ⟨rfl, rfl, rfl, rfl⟩ | ⟨rfl, rfl, rfl, rfl, rfl⟩ | ⟨rfl, rfl, rfl, hR, hf⟩
  · go_wp2
    go_ret
    exact ⟨rfl, hbw⟩
  · go_wp2_with fail
    refine (I2.out _).mono ?_
    rintro e' w5 ⟨rfl, hb5⟩
    go_wp2
    go_ret
    exact ⟨rfl, G.trans hbw hb5⟩
  · have HR := Lib.hid hR
    have HF := Lib.hid hf
    clear hR hf
    go_wp2_with fail
    refine (I2.out _).mono ?_
    rintro e' w5 ⟨rfl, hb5⟩
    replace k0 := G.cell (a := ⟨w.heap.size, 0, none⟩) (v := .int .i64 n) (by go_simp) hb5
    replace k1 := G.cell (a := ⟨w.heap.size, 1, none⟩) (v := .int .i64 s) (by go_simp) hb5
    replace k2 := G.cell (a := ⟨w.heap.size + 1, 0, none⟩) (v := .int .i64 m) (by go_simp) hb5
    replace k3 := G.cell (a := ⟨w.heap.size + 1, 1, none⟩) (v := .int .i64 t) (by go_simp) hb5
    replace k4 := G.cell (a := ⟨w2.heap.size, 0, none⟩) (v := .int .i64 d1) (by go_simp) hb5
    replace k5 := G.cell (a := ⟨w2.heap.size, 1, none⟩) (v := .int .i64 d2) (by go_simp) hb5
    replace lt0 := cell_lt k0
    replace lt1 := cell_lt k1
    replace lt2 := cell_lt k2
    replace lt3 := cell_lt k3
    replace lt4 := cell_lt k4
    replace lt5 := cell_lt k5
    replace hbw := G.trans hbw hb5
    clear hb5
    go_wp2_with fail
    refine (HR.out _).mono ?_
    rintro e' w6 ⟨rfl, hb6⟩
    replace k0 := G.cell (a := ⟨w.heap.size, 0, none⟩) (v := .int .i64 n) (by go_simp) hb6
    replace k1 := G.cell (a := ⟨w.heap.size, 1, none⟩) (v := .int .i64 s) (by go_simp) hb6
    replace k2 := G.cell (a := ⟨w.heap.size + 1, 0, none⟩) (v := .int .i64 m) (by go_simp) hb6
    replace k3 := G.cell (a := ⟨w.heap.size + 1, 1, none⟩) (v := .int .i64 t) (by go_simp) hb6
    replace k4 := G.cell (a := ⟨w2.heap.size, 0, none⟩) (v := .int .i64 d1) (by go_simp) hb6
    replace k5 := G.cell (a := ⟨w2.heap.size, 1, none⟩) (v := .int .i64 d2) (by go_simp) hb6
    replace lt0 := cell_lt k0
    replace lt1 := cell_lt k1
    replace lt2 := cell_lt k2
    replace lt3 := cell_lt k3
    replace lt4 := cell_lt k4
    replace lt5 := cell_lt k5
    replace hbw := G.trans hbw hb6
    clear hb6
    rcases HF.out with rfl | ⟨rfl, hG⟩
    · have hkk : (k != k) = false := by simp
      go_wp2
      go_ret
      exact ⟨rfl, hbw⟩
    · have hkk : (k != k) = false := by simp
      have HG := Lib.hid hG
      clear hG
      go_wp2_with fail
      refine (HG.out _).mono ?_
      rintro e' w7 ⟨rfl, hb7⟩
      go_wp2
      go_ret
      exact ⟨rfl, G.trans hbw hb7⟩
end Go.Proofs.YtoipapcbngknfaaDoor
