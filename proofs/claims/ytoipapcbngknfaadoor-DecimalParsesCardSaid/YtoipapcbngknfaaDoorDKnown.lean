/- What decimal.Text gives for -5 / 1000, and known() is true. -/
import Derived.Test.YtoipapcbngknfaaDoorDec5
import Derived.Test.YtoipapcbngknfaaDoorDTab
namespace Go.Proofs.YtoipapcbngknfaaDoor
set_option linter.unusedVariables false
set_option linter.unnecessarySimpa false
set_option linter.unusedSimpArgs false
open Go.RowKit

set_option maxRecDepth 20000 in set_option maxHeartbeats 400000 in
theorem text_known (w : World) (ht : Pow10 w) : Calls Tryd.prog 37 #[.agg #[.int .i64 (-5), .int .i64 3]] w fun e w' => e = .returned (.tuple #[.string ⟨#[45, 48, 46, 48, 48, 53]⟩, .int .i64 0]) ∧ Below w.heap.size w w' := by
  have C := Lib.hid (fun w => check1_any (-5) 3 w (by decide))
  rw [errN_ok (by decide)] at C
  have A5 := Lib.hid (fun w => abs_any (-5) w (by decide))
  rw [show max (-5 : Int) (- -5) = 5 by decide] at A5
  have I := Lib.hid (fun w ht => itoa_any 5 w (by decide) (by decide) ht)
  rw [itoaB5] at I
  have R := Lib.hid (fun w => repeat_any ⟨#[48]⟩ 3 w (by decide) (by decide))
  rw [show (⟨(Lib.repeatL (ByteArray.mk #[48]).data.toList 3).toArray⟩ : ByteArray) = ⟨#[48, 48, 48]⟩ from rfl] at R
  have s1 := fun (wx : World) => run_string_add_sum (P := Tryd.prog) wx ⟨#[48, 48, 48]⟩ ⟨#[53]⟩ (by decide)
  simp only [show ((⟨#[48, 48, 48]⟩ : ByteArray) ++ ⟨#[53]⟩) = ⟨#[48, 48, 48, 53]⟩ from by decide] at s1
  have s2 := fun (wx : World) => run_string_add_sum (P := Tryd.prog) wx ⟨#[48]⟩ ⟨#[46]⟩ (by decide)
  simp only [show ((⟨#[48]⟩ : ByteArray) ++ ⟨#[46]⟩) = ⟨#[48, 46]⟩ from by decide] at s2
  have s3 := fun (wx : World) => run_string_add_sum (P := Tryd.prog) wx ⟨#[48, 46]⟩ ⟨#[48, 48, 53]⟩ (by decide)
  simp only [show ((⟨#[48, 46]⟩ : ByteArray) ++ ⟨#[48, 48, 53]⟩) = ⟨#[48, 46, 48, 48, 53]⟩ from by decide] at s3
  have s4 := fun (wx : World) => run_string_add_sum (P := Tryd.prog) wx ⟨#[45]⟩ ⟨#[48, 46, 48, 48, 53]⟩ (by decide)
  simp only [show ((⟨#[45]⟩ : ByteArray) ++ ⟨#[48, 46, 48, 48, 53]⟩) = ⟨#[45, 48, 46, 48, 48, 53]⟩ from by decide] at s4
  have htt := Lib.hid ht
  clear ht
  go_enter Tryd.func37, Tryd.ntmps37
  go_wp2_with fail
  refine (C.out _).mono ?_
  rintro e w1 ⟨rfl, hb⟩
  
  replace k0 := G.cell (a := ⟨w.heap.size, 0, none⟩) (v := .int .i64 (-5)) (by go_simp) hb
  replace k1 := G.cell (a := ⟨w.heap.size, 1, none⟩) (v := .int .i64 3) (by go_simp) hb
  replace lt0 := cell_lt k0
  replace lt1 := cell_lt k1
  have hbw : Below w.heap.size w w1 := by repeat (first | with_reducible assumption | with_reducible exact G.refl _ | with_reducible refine G.drew ?_ | with_reducible refine G.drewN ?_ _ | with_reducible refine G.alloc ?_ _ | with_reducible refine Below.setCell ?_ (by first | (simp; done) | (simp; omega)) _ | with_reducible refine G.trans ?_ hb12 | with_reducible refine G.trans ?_ hb11 | with_reducible refine G.trans ?_ hb10 | with_reducible refine G.trans ?_ hb9 | with_reducible refine G.trans ?_ hb8 | with_reducible refine G.trans ?_ hb7 | with_reducible refine G.trans ?_ hb6 | with_reducible refine G.trans ?_ hb5 | with_reducible refine G.trans ?_ hb4 | with_reducible refine G.trans ?_ hb3 | with_reducible refine G.trans ?_ hb2 | with_reducible refine G.trans ?_ hb1 | with_reducible refine G.trans ?_ hb | assumption)
  go_wp2_with fail
  refine (A5.out _).mono ?_
  rintro e w2 ⟨rfl, rfl⟩
  go_wp2_with fail
  refine (I.out _ (htt.out.grow hbw)).mono ?_
  rintro e w2 ⟨rfl, hb2⟩
  replace hbw := G.trans hbw hb2
  replace k0 := G.cell (a := ⟨w.heap.size, 0, none⟩) (v := .int .i64 (-5)) (by go_simp) hb2
  replace k1 := G.cell (a := ⟨w.heap.size, 1, none⟩) (v := .int .i64 3) (by go_simp) hb2
  replace lt0 := cell_lt k0
  replace lt1 := cell_lt k1
  go_wp2_with fail
  rw [show max (0 : Int) 3 = 3 by decide]
  refine (R.out _).mono ?_
  rintro e w3 ⟨rfl, hb3⟩
  replace hbw := G.trans hbw hb3
  replace k0 := G.cell (a := ⟨w.heap.size, 0, none⟩) (v := .int .i64 (-5)) (by go_simp) hb3
  replace k1 := G.cell (a := ⟨w.heap.size, 1, none⟩) (v := .int .i64 3) (by go_simp) hb3
  replace lt0 := cell_lt k0
  replace lt1 := cell_lt k1
  go_wp2_with fail
  refine wp_region_ord [(0, 1), (1, 1), (2, 1), (3, 1), (4, 1), (5, 1), (6, 1), (7, 1), (8, 1), (9, 1), (10, 1), (11, 1), (12, 1), (13, 1), (14, 1), (15, 1), (16, 1)] [] 5 (by kernel_rfl) (by decide +kernel) ?_
  simp only [pickO, List.getElem?_cons_succ, List.getElem?_cons_zero]
  intro w0 hG
  (repeat ((first | (with_reducible refine ord_q1 ?_) | (with_reducible refine ord_q0 ?_)); intro K hK; first | (refine Or.inr ⟨?_, ?_⟩; (focus (go_simp; first | done | (simp [undef]; done))); go_simp; (with_reducible refine hK _ ?_); clear hK K) | (refine Or.inl ⟨?_, ?_⟩; (focus (go_simp; done)); apply Exists.intro; refine And.intro ?_ ?_; (focus (first | (intro wq hq; obtain ⟨hcq, hfq⟩ := G.old hq; go_simp; (first | done | exact rfl); done) | (intro wq; go_simp; (first | done | exact rfl); done))); go_simp; (with_reducible refine hK _ ?_); clear hK K) | fail))
  (with_reducible refine ord_nil ?_)
  replace hbw := G.trans hbw hG.b
  replace k0 := G.cell k0 hG.b
  go_wp2_with fail
  go_ret2
  exact ⟨rfl, hbw⟩

set_option maxRecDepth 20000 in set_option maxHeartbeats 400000 in
theorem known_any (w : World) (ht : Pow10 w) : Calls Tryd.prog 17 #[] w fun e w' => e = .returned (.bool true) ∧ Below w.heap.size w w' := by
  have A := Lib.hid (fun w => add_any 125 2 5 1 w (by decide) (by decide))
  rw [show addN 125 2 5 1 = (175, 2, 0) by decide] at A
  have D := Lib.hid div_known
  have T := Lib.hid text_known
  have htt := Lib.hid ht
  clear ht
  go_enter Tryd.func17, Tryd.ntmps17
  go_wp2_with fail
  refine (A.out _).mono ?_
  rintro e w1 ⟨rfl, hb1⟩
  go_wp2_with fail
  refine (D.out _).mono ?_
  rintro e w2 ⟨rfl, hb2⟩
  
  replace k0 := G.cell (a := ⟨w1.heap.size, 0, none⟩) (v := .int .i64 175) (by go_simp) hb2
  replace k1 := G.cell (a := ⟨w1.heap.size, 1, none⟩) (v := .int .i64 2) (by go_simp) hb2
  replace lt0 := cell_lt k0
  replace lt1 := cell_lt k1
  go_wp2_with fail
  refine (T.out _ (htt.out.grow (by repeat (first | with_reducible assumption | with_reducible exact G.refl _ | with_reducible refine G.drew ?_ | with_reducible refine G.drewN ?_ _ | with_reducible refine G.alloc ?_ _ | with_reducible refine Below.setCell ?_ (by first | (simp; done) | (simp; omega)) _ | with_reducible refine G.trans ?_ hb12 | with_reducible refine G.trans ?_ hb11 | with_reducible refine G.trans ?_ hb10 | with_reducible refine G.trans ?_ hb9 | with_reducible refine G.trans ?_ hb8 | with_reducible refine G.trans ?_ hb7 | with_reducible refine G.trans ?_ hb6 | with_reducible refine G.trans ?_ hb5 | with_reducible refine G.trans ?_ hb4 | with_reducible refine G.trans ?_ hb3 | with_reducible refine G.trans ?_ hb2 | with_reducible refine G.trans ?_ hb1 | with_reducible refine G.trans ?_ hb | assumption)))).mono ?_
  rintro e w3 ⟨rfl, hb3⟩
  
  replace k0 := G.cell (a := ⟨w1.heap.size, 0, none⟩) (v := .int .i64 175) (by go_simp) hb3
  replace k1 := G.cell (a := ⟨w1.heap.size, 1, none⟩) (v := .int .i64 2) (by go_simp) hb3
  replace k2 := G.cell (a := ⟨w2.heap.size, 0, none⟩) (v := .int .i64 33) (by go_simp) hb3
  replace k3 := G.cell (a := ⟨w2.heap.size, 1, none⟩) (v := .int .i64 2) (by go_simp) hb3
  replace lt0 := cell_lt k0
  replace lt1 := cell_lt k1
  replace lt2 := cell_lt k2
  replace lt3 := cell_lt k3
  go_wp2_with fail
  go_ret
  exact ⟨rfl, by repeat (first | with_reducible assumption | with_reducible exact G.refl _ | with_reducible refine G.drew ?_ | with_reducible refine G.drewN ?_ _ | with_reducible refine G.alloc ?_ _ | with_reducible refine Below.setCell ?_ (by first | (simp; done) | (simp; omega)) _ | with_reducible refine G.trans ?_ hb12 | with_reducible refine G.trans ?_ hb11 | with_reducible refine G.trans ?_ hb10 | with_reducible refine G.trans ?_ hb9 | with_reducible refine G.trans ?_ hb8 | with_reducible refine G.trans ?_ hb7 | with_reducible refine G.trans ?_ hb6 | with_reducible refine G.trans ?_ hb5 | with_reducible refine G.trans ?_ hb4 | with_reducible refine G.trans ?_ hb3 | with_reducible refine G.trans ?_ hb2 | with_reducible refine G.trans ?_ hb1 | with_reducible refine G.trans ?_ hb | assumption)⟩
end Go.Proofs.YtoipapcbngknfaaDoor
