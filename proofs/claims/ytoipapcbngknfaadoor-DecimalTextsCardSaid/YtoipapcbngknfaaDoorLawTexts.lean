/- The laws DecimalTexts and DecimalParses return true: the walks. -/
import Derived.Test.YtoipapcbngknfaaDoorText5
import Derived.Test.YtoipapcbngknfaaDoorDKnown
namespace Go.Proofs.YtoipapcbngknfaaDoor
set_option linter.unusedVariables false
set_option linter.unnecessarySimpa false
set_option linter.unusedSimpArgs false
open Go.RowKit

set_option maxRecDepth 20000 in set_option maxHeartbeats 1000000 in
theorem decimalTexts_any (n s : Int) (w : World) (h1 : (Lit.int .i64 n).wf = true) (hv : LibVars w) (ht : Pow10 w) :
    Calls Tryd.prog 12 #[.agg #[.int .i64 n, .int .i64 s]] w fun e' w' => e' = .returned (.bool true) ∧ Below w.heap.size w w' := by
  have htt := Lib.hid ht
  have hvv := Lib.hid hv
  have TX := fun w ht => text_any n s w h1 ht
  have IS := fun w => is_any n s w
  by_cases hok : okN n s = true
  · have he : errN n s = 0 := errN_ok hok
    rw [he] at TX
    rw [hok] at IS
    have hs : txS n s = B (txt n s.toNat) := by unfold txS; rw [if_pos hok]
    rw [hs] at TX
    obtain ⟨j, rfl, hj, hn0, hn1⟩ := okN_nat hok
    rw [Int.toNat_natCast] at TX
    have hl := txt_len hn0 hn1 hj
    have PA := fun w hv ht => parse_any (txt n j) w (by omega) hv ht
    rw [parseN_acc (fun h => by rw [h] at hl; simp at hl) hl.2 hok rfl] at PA
    have RT := fun w => reftext_any n j w hok
    unfold RetF RetN at PA
    simp only at PA
    replace TX := Lib.hid TX
    replace IS := Lib.hid IS
    replace PA := Lib.hid PA
    replace RT := Lib.hid RT
    generalize B (txt n j) = b at *
    clear hs he hok h1 hv ht hl
    go_enter Tryd.func12, Tryd.ntmps12
    go_wp2_with fail
    refine (TX.out _ (htt.out.grow (by repeat (first | with_reducible assumption | with_reducible exact G.refl _ | with_reducible refine G.drew ?_ | with_reducible refine G.drewN ?_ _ | with_reducible refine G.alloc ?_ _ | with_reducible refine Below.setCell ?_ (by first | (simp; done) | (simp; omega)) _ | with_reducible refine G.trans ?_ hb12 | with_reducible refine G.trans ?_ hb11 | with_reducible refine G.trans ?_ hb10 | with_reducible refine G.trans ?_ hb9 | with_reducible refine G.trans ?_ hb8 | with_reducible refine G.trans ?_ hb7 | with_reducible refine G.trans ?_ hb6 | with_reducible refine G.trans ?_ hb5 | with_reducible refine G.trans ?_ hb4 | with_reducible refine G.trans ?_ hb3 | with_reducible refine G.trans ?_ hb2 | with_reducible refine G.trans ?_ hb1 | with_reducible refine G.trans ?_ hb | assumption)))).mono ?_
    rintro e' w1 ⟨rfl, hb1⟩
    
    replace k0 := G.cell (a := ⟨w.heap.size, 0, none⟩) (v := .int .i64 n) (by go_simp) hb1
    replace k1 := G.cell (a := ⟨w.heap.size, 1, none⟩) (v := .int .i64 j) (by go_simp) hb1
    replace lt0 := cell_lt k0
    replace lt1 := cell_lt k1
    go_wp2_with fail
    refine (known_any _ (htt.out.grow (by repeat (first | with_reducible assumption | with_reducible exact G.refl _ | with_reducible refine G.drew ?_ | with_reducible refine G.drewN ?_ _ | with_reducible refine G.alloc ?_ _ | with_reducible refine Below.setCell ?_ (by first | (simp; done) | (simp; omega)) _ | with_reducible refine G.trans ?_ hb12 | with_reducible refine G.trans ?_ hb11 | with_reducible refine G.trans ?_ hb10 | with_reducible refine G.trans ?_ hb9 | with_reducible refine G.trans ?_ hb8 | with_reducible refine G.trans ?_ hb7 | with_reducible refine G.trans ?_ hb6 | with_reducible refine G.trans ?_ hb5 | with_reducible refine G.trans ?_ hb4 | with_reducible refine G.trans ?_ hb3 | with_reducible refine G.trans ?_ hb2 | with_reducible refine G.trans ?_ hb1 | with_reducible refine G.trans ?_ hb | assumption)))).mono ?_
    rintro e' w2 ⟨rfl, hb2⟩
    replace k0 := G.cell (a := ⟨w.heap.size, 0, none⟩) (v := .int .i64 n) (by go_simp) hb2
    replace k1 := G.cell (a := ⟨w.heap.size, 1, none⟩) (v := .int .i64 j) (by go_simp) hb2
    replace lt0 := cell_lt k0
    replace lt1 := cell_lt k1
    go_wp2_with fail
    refine (IS.out _).mono ?_
    rintro e' w3 ⟨rfl, hb3⟩
    replace k0 := G.cell (a := ⟨w.heap.size, 0, none⟩) (v := .int .i64 n) (by go_simp) hb3
    replace k1 := G.cell (a := ⟨w.heap.size, 1, none⟩) (v := .int .i64 j) (by go_simp) hb3
    replace lt0 := cell_lt k0
    replace lt1 := cell_lt k1
    go_wp2_with fail
    refine (PA.out _ (hvv.out.grow (by repeat (first | with_reducible assumption | with_reducible exact G.refl _ | with_reducible refine G.drew ?_ | with_reducible refine G.drewN ?_ _ | with_reducible refine G.alloc ?_ _ | with_reducible refine Below.setCell ?_ (by first | (simp; done) | (simp; omega)) _ | with_reducible refine G.trans ?_ hb12 | with_reducible refine G.trans ?_ hb11 | with_reducible refine G.trans ?_ hb10 | with_reducible refine G.trans ?_ hb9 | with_reducible refine G.trans ?_ hb8 | with_reducible refine G.trans ?_ hb7 | with_reducible refine G.trans ?_ hb6 | with_reducible refine G.trans ?_ hb5 | with_reducible refine G.trans ?_ hb4 | with_reducible refine G.trans ?_ hb3 | with_reducible refine G.trans ?_ hb2 | with_reducible refine G.trans ?_ hb1 | with_reducible refine G.trans ?_ hb | assumption))) (htt.out.grow (by repeat (first | with_reducible assumption | with_reducible exact G.refl _ | with_reducible refine G.drew ?_ | with_reducible refine G.drewN ?_ _ | with_reducible refine G.alloc ?_ _ | with_reducible refine Below.setCell ?_ (by first | (simp; done) | (simp; omega)) _ | with_reducible refine G.trans ?_ hb12 | with_reducible refine G.trans ?_ hb11 | with_reducible refine G.trans ?_ hb10 | with_reducible refine G.trans ?_ hb9 | with_reducible refine G.trans ?_ hb8 | with_reducible refine G.trans ?_ hb7 | with_reducible refine G.trans ?_ hb6 | with_reducible refine G.trans ?_ hb5 | with_reducible refine G.trans ?_ hb4 | with_reducible refine G.trans ?_ hb3 | with_reducible refine G.trans ?_ hb2 | with_reducible refine G.trans ?_ hb1 | with_reducible refine G.trans ?_ hb | assumption)))).mono ?_
    rintro e' w4 ⟨rfl, hb4⟩
    replace k0 := G.cell (a := ⟨w.heap.size, 0, none⟩) (v := .int .i64 n) (by go_simp) hb4
    replace k1 := G.cell (a := ⟨w.heap.size, 1, none⟩) (v := .int .i64 j) (by go_simp) hb4
    replace lt0 := cell_lt k0
    replace lt1 := cell_lt k1
    go_wp2_with fail
    refine (RT.out _).mono ?_
    rintro e' w5 ⟨rfl, hb5⟩
    
    replace k0 := G.cell (a := ⟨w.heap.size, 0, none⟩) (v := .int .i64 n) (by go_simp) hb5
    replace k1 := G.cell (a := ⟨w.heap.size, 1, none⟩) (v := .int .i64 j) (by go_simp) hb5
    replace k2 := G.cell (a := ⟨w4.heap.size, 0, none⟩) (v := .int .i64 n) (by go_simp) hb5
    replace k3 := G.cell (a := ⟨w4.heap.size, 1, none⟩) (v := .int .i64 j) (by go_simp) hb5
    replace lt0 := cell_lt k0
    replace lt1 := cell_lt k1
    replace lt2 := cell_lt k2
    replace lt3 := cell_lt k3
    go_wp2_with fail
    go_ret
    exact ⟨rfl, by repeat (first | with_reducible assumption | with_reducible exact G.refl _ | with_reducible refine G.drew ?_ | with_reducible refine G.drewN ?_ _ | with_reducible refine G.alloc ?_ _ | with_reducible refine Below.setCell ?_ (by first | (simp; done) | (simp; omega)) _ | with_reducible refine G.trans ?_ hb12 | with_reducible refine G.trans ?_ hb11 | with_reducible refine G.trans ?_ hb10 | with_reducible refine G.trans ?_ hb9 | with_reducible refine G.trans ?_ hb8 | with_reducible refine G.trans ?_ hb7 | with_reducible refine G.trans ?_ hb6 | with_reducible refine G.trans ?_ hb5 | with_reducible refine G.trans ?_ hb4 | with_reducible refine G.trans ?_ hb3 | with_reducible refine G.trans ?_ hb2 | with_reducible refine G.trans ?_ hb1 | with_reducible refine G.trans ?_ hb | assumption)⟩
  · have he : errN n s = 2 := errN_bad hok
    have hob : okN n s = false := by simpa using hok
    rw [he] at TX
    rw [hob] at IS
    have hs : txS n s = B [] := by unfold txS; rw [if_neg hok]
    rw [hs, show B [] = ⟨#[]⟩ from rfl] at TX
    replace TX := Lib.hid TX
    replace IS := Lib.hid IS
    clear hs he hok h1 hv ht hob
    go_enter Tryd.func12, Tryd.ntmps12
    go_wp2_with fail
    refine (TX.out _ (htt.out.grow (by repeat (first | with_reducible assumption | with_reducible exact G.refl _ | with_reducible refine G.drew ?_ | with_reducible refine G.drewN ?_ _ | with_reducible refine G.alloc ?_ _ | with_reducible refine Below.setCell ?_ (by first | (simp; done) | (simp; omega)) _ | with_reducible refine G.trans ?_ hb12 | with_reducible refine G.trans ?_ hb11 | with_reducible refine G.trans ?_ hb10 | with_reducible refine G.trans ?_ hb9 | with_reducible refine G.trans ?_ hb8 | with_reducible refine G.trans ?_ hb7 | with_reducible refine G.trans ?_ hb6 | with_reducible refine G.trans ?_ hb5 | with_reducible refine G.trans ?_ hb4 | with_reducible refine G.trans ?_ hb3 | with_reducible refine G.trans ?_ hb2 | with_reducible refine G.trans ?_ hb1 | with_reducible refine G.trans ?_ hb | assumption)))).mono ?_
    rintro e' w1 ⟨rfl, hb1⟩
    
    replace k0 := G.cell (a := ⟨w.heap.size, 0, none⟩) (v := .int .i64 n) (by go_simp) hb1
    replace k1 := G.cell (a := ⟨w.heap.size, 1, none⟩) (v := .int .i64 s) (by go_simp) hb1
    replace lt0 := cell_lt k0
    replace lt1 := cell_lt k1
    go_wp2_with fail
    refine (known_any _ (htt.out.grow (by repeat (first | with_reducible assumption | with_reducible exact G.refl _ | with_reducible refine G.drew ?_ | with_reducible refine G.drewN ?_ _ | with_reducible refine G.alloc ?_ _ | with_reducible refine Below.setCell ?_ (by first | (simp; done) | (simp; omega)) _ | with_reducible refine G.trans ?_ hb12 | with_reducible refine G.trans ?_ hb11 | with_reducible refine G.trans ?_ hb10 | with_reducible refine G.trans ?_ hb9 | with_reducible refine G.trans ?_ hb8 | with_reducible refine G.trans ?_ hb7 | with_reducible refine G.trans ?_ hb6 | with_reducible refine G.trans ?_ hb5 | with_reducible refine G.trans ?_ hb4 | with_reducible refine G.trans ?_ hb3 | with_reducible refine G.trans ?_ hb2 | with_reducible refine G.trans ?_ hb1 | with_reducible refine G.trans ?_ hb | assumption)))).mono ?_
    rintro e' w2 ⟨rfl, hb2⟩
    replace k0 := G.cell (a := ⟨w.heap.size, 0, none⟩) (v := .int .i64 n) (by go_simp) hb2
    replace k1 := G.cell (a := ⟨w.heap.size, 1, none⟩) (v := .int .i64 s) (by go_simp) hb2
    replace lt0 := cell_lt k0
    replace lt1 := cell_lt k1
    go_wp2_with fail
    refine (IS.out _).mono ?_
    rintro e' w3 ⟨rfl, hb3⟩
    go_wp2_with fail
    go_ret
    exact ⟨rfl, by repeat (first | with_reducible assumption | with_reducible exact G.refl _ | with_reducible refine G.drew ?_ | with_reducible refine G.drewN ?_ _ | with_reducible refine G.alloc ?_ _ | with_reducible refine Below.setCell ?_ (by first | (simp; done) | (simp; omega)) _ | with_reducible refine G.trans ?_ hb12 | with_reducible refine G.trans ?_ hb11 | with_reducible refine G.trans ?_ hb10 | with_reducible refine G.trans ?_ hb9 | with_reducible refine G.trans ?_ hb8 | with_reducible refine G.trans ?_ hb7 | with_reducible refine G.trans ?_ hb6 | with_reducible refine G.trans ?_ hb5 | with_reducible refine G.trans ?_ hb4 | with_reducible refine G.trans ?_ hb3 | with_reducible refine G.trans ?_ hb2 | with_reducible refine G.trans ?_ hb1 | with_reducible refine G.trans ?_ hb | assumption)⟩
end Go.Proofs.YtoipapcbngknfaaDoor
