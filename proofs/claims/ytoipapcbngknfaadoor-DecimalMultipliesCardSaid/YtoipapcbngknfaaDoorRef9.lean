/- What the reference's Mul computes. -/
import Derived.Test.YtoipapcbngknfaaDoorRef8
import Derived.Test.YtoipapcbngknfaaDoorDec7
namespace Go.Proofs.YtoipapcbngknfaaDoor
set_option linter.unusedVariables false
set_option linter.unnecessarySimpa false
set_option linter.unusedSimpArgs false
open Go.RowKit

set_option maxRecDepth 20000 in set_option maxHeartbeats 400000 in
theorem refmul_bad (n s m t : Int) (w : World) (hbad : ¬ (okN n s = true ∧ okN m t = true)) :
    Calls Tryd.prog 28 #[.agg #[.int .i64 n, .int .i64 s], .agg #[.int .i64 m, .int .i64 t]] w (RetF (mulN n s m t) w) := by
  have hr : Hid (mulN n s m t = (0, 0, 2)) := if_neg hbad
  have I1 := fun w => is_any n s w
  have I2 := fun w => is_any m t w
  generalize okN n s = p at *
  generalize okN m t = q at *
  replace I1 := Lib.hid I1
  replace I2 := Lib.hid I2
  cases p
  · clear hbad
    go_enter Tryd.func28, Tryd.ntmps28
    go_wp2_with fail
    refine (I1.out _).mono ?_
    rintro e w1 ⟨rfl, hb⟩
    
    replace k0 := G.cell (a := ⟨w.heap.size + 1 + 1, 0, none⟩) (v := .int .i64 0) (by go_simp) hb
    replace k1 := G.cell (a := ⟨w.heap.size + 1 + 1, 1, none⟩) (v := .int .i64 0) (by go_simp) hb
    replace lt0 := cell_lt k0
    replace lt1 := cell_lt k1
    obtain ⟨hc, hf⟩ := G.old hb
    have z0 : w1.frozen? ⟨w.heap.size + 1 + 1, 0, none⟩ = false := (hf _ _ (by simp)).trans (by go_simp)
    have z1 : w1.frozen? ⟨w.heap.size + 1 + 1, 1, none⟩ = false := (hf _ _ (by simp)).trans (by go_simp)
    go_wp2_with fail
    exact bodyPost_ret (v := .tuple #[.agg #[.int .i64 0, .int .i64 0], .int .i64 2]) (by simp only [results, Tryd.results28]; go_simp) rfl ⟨by rw [hr.out], by repeat (first | with_reducible assumption | with_reducible exact G.refl _ | with_reducible refine G.drew ?_ | with_reducible refine G.drewN ?_ _ | with_reducible refine G.alloc ?_ _ | with_reducible refine Below.setCell ?_ (by first | (simp; done) | (simp; omega)) _ | with_reducible refine G.trans ?_ hb12 | with_reducible refine G.trans ?_ hb11 | with_reducible refine G.trans ?_ hb10 | with_reducible refine G.trans ?_ hb9 | with_reducible refine G.trans ?_ hb8 | with_reducible refine G.trans ?_ hb7 | with_reducible refine G.trans ?_ hb6 | with_reducible refine G.trans ?_ hb5 | with_reducible refine G.trans ?_ hb4 | with_reducible refine G.trans ?_ hb3 | with_reducible refine G.trans ?_ hb2 | with_reducible refine G.trans ?_ hb1 | with_reducible refine G.trans ?_ hb | assumption)⟩
  · cases q
    · clear hbad
      go_enter Tryd.func28, Tryd.ntmps28
      go_wp2_with fail
      refine (I1.out _).mono ?_
      rintro e w1 ⟨rfl, hb⟩
      
      replace k0 := G.cell (a := ⟨w.heap.size + 1, 0, none⟩) (v := .int .i64 m) (by go_simp) hb
      replace k1 := G.cell (a := ⟨w.heap.size + 1, 1, none⟩) (v := .int .i64 t) (by go_simp) hb
      replace k2 := G.cell (a := ⟨w.heap.size + 1 + 1, 0, none⟩) (v := .int .i64 0) (by go_simp) hb
      replace k3 := G.cell (a := ⟨w.heap.size + 1 + 1, 1, none⟩) (v := .int .i64 0) (by go_simp) hb
      replace lt0 := cell_lt k0
      replace lt1 := cell_lt k1
      replace lt2 := cell_lt k2
      replace lt3 := cell_lt k3
      obtain ⟨hc, hf⟩ := G.old hb
      have z0 : w1.frozen? ⟨w.heap.size + 1 + 1, 0, none⟩ = false := (hf _ _ (by simp)).trans (by go_simp)
      have z1 : w1.frozen? ⟨w.heap.size + 1 + 1, 1, none⟩ = false := (hf _ _ (by simp)).trans (by go_simp)
      have hbx : Box2 w1 (w.heap.size + 1 + 1) (.int .i64 0) (.int .i64 0) := ⟨k2, k3, z0, z1⟩
      have hbw : Below w.heap.size w w1 := by repeat (first | with_reducible assumption | with_reducible exact G.refl _ | with_reducible refine G.drew ?_ | with_reducible refine G.drewN ?_ _ | with_reducible refine G.alloc ?_ _ | with_reducible refine Below.setCell ?_ (by first | (simp; done) | (simp; omega)) _ | with_reducible refine G.trans ?_ hb12 | with_reducible refine G.trans ?_ hb11 | with_reducible refine G.trans ?_ hb10 | with_reducible refine G.trans ?_ hb9 | with_reducible refine G.trans ?_ hb8 | with_reducible refine G.trans ?_ hb7 | with_reducible refine G.trans ?_ hb6 | with_reducible refine G.trans ?_ hb5 | with_reducible refine G.trans ?_ hb4 | with_reducible refine G.trans ?_ hb3 | with_reducible refine G.trans ?_ hb2 | with_reducible refine G.trans ?_ hb1 | with_reducible refine G.trans ?_ hb | assumption)
      clear hc hf
      go_wp2_with fail
      refine (I2.out _).mono ?_
      rintro e w2 ⟨rfl, hb2⟩
      obtain ⟨r1, r2, r3, r4⟩ := hbx.grow hb2
      have ltR := cell_lt r1
      go_wp2_with fail
      exact bodyPost_ret (v := .tuple #[.agg #[.int .i64 0, .int .i64 0], .int .i64 2]) (by simp only [results, Tryd.results28]; go_simp) rfl ⟨by rw [hr.out], ((G.trans hbw hb2).setCell (by simp; omega) _).setCell (by simp; omega) _⟩
    · exact absurd ⟨rfl, rfl⟩ hbad
set_option maxRecDepth 20000 in set_option maxHeartbeats 1000000 in
theorem refmul_ok (n s m t : Int) (w : World) (h1 : okN n s = true) (h2 : okN m t = true) :
    Calls Tryd.prog 28 #[.agg #[.int .i64 n, .int .i64 s], .agg #[.int .i64 m, .int .i64 t]] w (RetF (mulN n s m t) w) := by
  have hr : mulN n s m t = if s + t ≤ 12 then fitN (n * m) (s + t) else (0, 0, 14) := if_pos ⟨h1, h2⟩
  have I1 := Lib.hid (fun w => is_any n s w)
  have I2 := Lib.hid (fun w => is_any m t w)
  rw [h1] at I1
  rw [h2] at I2
  obtain ⟨j, rfl, hj, hn0, hn1⟩ := okN_nat h1
  obtain ⟨i, rfl, hi, hm0, hm1⟩ := okN_nat h2
  have hfw : fitW (n * m) (j + i) = mulN n j m i := by
    rw [hr]
    unfold fitW
    by_cases h : j + i ≤ 12
    · rw [if_pos h, if_pos (by omega), Int.natCast_add]
    · rw [if_neg h, if_neg (by omega)]
  have P1 : Hid (∀ w, Calls Tryd.prog 23 #[.int .i64 n, .int .i64 0] w (RetW n w)) := by
    intro w
    have h := of_any n 0 w (by omega) (by omega) (by omega)
    rw [p10_zero, Int.mul_one] at h
    exact h
  have P2 : Hid (∀ w, Calls Tryd.prog 23 #[.int .i64 m, .int .i64 0] w (RetW m w)) := by
    intro w
    have h := of_any m 0 w (by omega) (by omega) (by omega)
    rw [p10_zero, Int.mul_one] at h
    exact h
  have l1 : Hid ((digs n.natAbs).length ≤ 100) := by have := digs_15.2 ⟨hn0, hn1⟩; unfold Hid; omega
  have l2 : Hid ((digs m.natAbs).length ≤ 100) := by have := digs_15.2 ⟨hm0, hm1⟩; unfold Hid; omega
  have FT := fun A n' c w hx => fitW_any (n * m) A n' c (j + i) w hx (by omega)
  rw [hfw] at FT
  simp only [Int.natCast_add] at FT
  have hsum : IntKind.i64.wrap ((j : Int) + (i : Int)) = (j : Int) + (i : Int) := IntWalk.i64_in _ (by omega)
  generalize mulN n j m i = p at *
  replace FT := Lib.hid FT
  clear hfw hr h1 h2 hn0 hn1 hm0 hm1
  go_enter Tryd.func28, Tryd.ntmps28
  go_wp2_with fail
  refine (I1.out _).mono ?_
  rintro e w1 ⟨rfl, hb⟩
  
  replace k0 := G.cell (a := ⟨w.heap.size, 0, none⟩) (v := .int .i64 n) (by go_simp) hb
  replace k1 := G.cell (a := ⟨w.heap.size, 1, none⟩) (v := .int .i64 j) (by go_simp) hb
  replace k2 := G.cell (a := ⟨w.heap.size + 1, 0, none⟩) (v := .int .i64 m) (by go_simp) hb
  replace k3 := G.cell (a := ⟨w.heap.size + 1, 1, none⟩) (v := .int .i64 i) (by go_simp) hb
  replace k4 := G.cell (a := ⟨w.heap.size + 1 + 1, 0, none⟩) (v := .int .i64 0) (by go_simp) hb
  replace k5 := G.cell (a := ⟨w.heap.size + 1 + 1, 1, none⟩) (v := .int .i64 0) (by go_simp) hb
  replace lt0 := cell_lt k0
  replace lt1 := cell_lt k1
  replace lt2 := cell_lt k2
  replace lt3 := cell_lt k3
  replace lt4 := cell_lt k4
  replace lt5 := cell_lt k5
  obtain ⟨hc, hf⟩ := G.old hb
  have z0 : w1.frozen? ⟨w.heap.size + 1 + 1, 0, none⟩ = false := (hf _ _ (by simp)).trans (by go_simp)
  have z1 : w1.frozen? ⟨w.heap.size + 1 + 1, 1, none⟩ = false := (hf _ _ (by simp)).trans (by go_simp)
  have hbx : Box2 w1 (w.heap.size + 1 + 1) (.int .i64 0) (.int .i64 0) := ⟨k4, k5, z0, z1⟩
  have hbw : Below w.heap.size w w1 := by repeat (first | with_reducible assumption | with_reducible exact G.refl _ | with_reducible refine G.drew ?_ | with_reducible refine G.drewN ?_ _ | with_reducible refine G.alloc ?_ _ | with_reducible refine Below.setCell ?_ (by first | (simp; done) | (simp; omega)) _ | with_reducible refine G.trans ?_ hb12 | with_reducible refine G.trans ?_ hb11 | with_reducible refine G.trans ?_ hb10 | with_reducible refine G.trans ?_ hb9 | with_reducible refine G.trans ?_ hb8 | with_reducible refine G.trans ?_ hb7 | with_reducible refine G.trans ?_ hb6 | with_reducible refine G.trans ?_ hb5 | with_reducible refine G.trans ?_ hb4 | with_reducible refine G.trans ?_ hb3 | with_reducible refine G.trans ?_ hb2 | with_reducible refine G.trans ?_ hb1 | with_reducible refine G.trans ?_ hb | assumption)
  clear hc hf hb z0 z1
  go_wp2_with fail
  refine (I2.out _).mono ?_
  rintro e w2 ⟨rfl, hb2⟩
  replace k0 := G.cell (a := ⟨w.heap.size, 0, none⟩) (v := .int .i64 n) (by go_simp) hb2
  replace k1 := G.cell (a := ⟨w.heap.size, 1, none⟩) (v := .int .i64 j) (by go_simp) hb2
  replace k2 := G.cell (a := ⟨w.heap.size + 1, 0, none⟩) (v := .int .i64 m) (by go_simp) hb2
  replace k3 := G.cell (a := ⟨w.heap.size + 1, 1, none⟩) (v := .int .i64 i) (by go_simp) hb2
  replace k4 := G.cell (a := ⟨w.heap.size + 1 + 1, 0, none⟩) (v := .int .i64 0) (by go_simp) hb2
  replace k5 := G.cell (a := ⟨w.heap.size + 1 + 1, 1, none⟩) (v := .int .i64 0) (by go_simp) hb2
  replace lt0 := cell_lt k0
  replace lt1 := cell_lt k1
  replace lt2 := cell_lt k2
  replace lt3 := cell_lt k3
  replace lt4 := cell_lt k4
  replace lt5 := cell_lt k5
  replace hbx := hbx.grow hb2
  replace hbw := G.trans hbw hb2
  go_wp2_with fail
  refine wp_region_ord [(0, 1), (1, 1), (3, 1), (4, 1), (7, 1), (8, 1), (9, 1), (10, 1), (11, 1), (2, 2), (5, 2), (6, 2), (12, 2), (13, 1), (14, 1), (15, 3), (16, 0)] [15] 5 (by kernel_rfl) (by decide +kernel) ?_
  simp only [pickO, List.getElem?_cons_succ, List.getElem?_cons_zero]
  intro w0 hG
  (repeat ((first | (with_reducible refine ord_q1 ?_) | (with_reducible refine ord_q0 ?_)); intro K hK; first | (refine Or.inr ⟨?_, ?_⟩; (focus (go_simp; first | done | (simp [undef]; done))); go_simp; (with_reducible refine hK _ ?_); clear hK K) | (refine Or.inl ⟨?_, ?_⟩; (focus (go_simp; done)); apply Exists.intro; refine And.intro ?_ ?_; (focus (first | (intro wq hq; obtain ⟨hcq, hfq⟩ := G.old hq; go_simp; (first | done | exact rfl); done) | (intro wq; go_simp; (first | done | exact rfl); done))); go_simp; (with_reducible refine hK _ ?_); clear hK K) | fail))
  (with_reducible refine ord_run ?_ hG)
  intro K hK
  go_simp
  go_at_call 23; (with_reducible refine (P1.out _).mono ?_); rintro e w3 ⟨A3, n3, c3, rfl, hw3, ha3, hb3⟩
  replace hG := Grew.trans hG hb3
  (try dsimp only)
  (with_reducible refine hK _ _ hG ?_)
  clear hK K
  (repeat ((first | (with_reducible refine ord_q1 ?_) | (with_reducible refine ord_q0 ?_)); intro K hK; first | (refine Or.inr ⟨?_, ?_⟩; (focus (go_simp; first | done | (simp [undef]; done))); go_simp; (with_reducible refine hK _ ?_); clear hK K) | (refine Or.inl ⟨?_, ?_⟩; (focus (go_simp; done)); apply Exists.intro; refine And.intro ?_ ?_; (focus (first | (intro wq hq; obtain ⟨hcq, hfq⟩ := G.old hq; go_simp; (first | done | exact rfl); done) | (intro wq; go_simp; (first | done | exact rfl); done))); go_simp; (with_reducible refine hK _ ?_); clear hK K) | fail))
  (with_reducible refine ord_run ?_ hG)
  intro K hK
  go_simp
  go_at_call 23; (with_reducible refine (P2.out _).mono ?_); rintro e w4 ⟨A4, n4, c4, rfl, hw4, ha4, hb4⟩
  replace hG := Grew.trans hG hb4
  (try dsimp only)
  (with_reducible refine hK _ _ hG ?_)
  clear hK K
  (repeat ((first | (with_reducible refine ord_q1 ?_) | (with_reducible refine ord_q0 ?_)); intro K hK; first | (refine Or.inr ⟨?_, ?_⟩; (focus (go_simp; first | done | (simp [undef]; done))); go_simp; (with_reducible refine hK _ ?_); clear hK K) | (refine Or.inl ⟨?_, ?_⟩; (focus (go_simp; done)); apply Exists.intro; refine And.intro ?_ ?_; (focus (first | (intro wq hq; obtain ⟨hcq, hfq⟩ := G.old hq; go_simp; (first | done | exact rfl); done) | (intro wq; go_simp; (first | done | exact rfl); done))); go_simp; (with_reducible refine hK _ ?_); clear hK K) | fail))
  (with_reducible refine ord_run ?_ hG)
  intro K hK
  go_simp
  go_at_call 51; (with_reducible refine (times_any n m A3 A4 n3 n4 c3 c4 _ (hw3.grow hb4) hw4 (by rw [← hw3.len]; exact l1.out) (by rw [← hw4.len]; exact l2.out)).mono ?_); rintro e w5 ⟨A5, n5, c5, rfl, hw5, ha5, hb5⟩
  replace hG := Grew.trans hG hb5
  (try dsimp only)
  (with_reducible refine hK _ _ hG ?_)
  clear hK K
  (repeat ((first | (with_reducible refine ord_q1 ?_) | (with_reducible refine ord_q0 ?_)); intro K hK; first | (refine Or.inr ⟨?_, ?_⟩; (focus (go_simp; first | done | (simp [undef]; done))); go_simp; (with_reducible refine hK _ ?_); clear hK K) | (refine Or.inl ⟨?_, ?_⟩; (focus (go_simp; done)); apply Exists.intro; refine And.intro ?_ ?_; (focus (first | (intro wq hq; obtain ⟨hcq, hfq⟩ := G.old hq; go_simp; (first | done | exact rfl); done) | (intro wq; go_simp; (first | done | exact rfl); done))); go_simp; (with_reducible refine hK _ ?_); clear hK K) | fail))
  (with_reducible refine ord_run ?_ hG)
  intro K hK
  go_simp
  go_at_call 44; (with_reducible refine (FT.out A5 n5 c5 _ hw5).mono ?_); rintro e w6 ⟨rfl, hb6⟩
  replace hG := Grew.trans hG hb6
  (try dsimp only)
  (with_reducible refine hK _ _ hG ?_)
  clear hK K
  (repeat ((first | (with_reducible refine ord_q1 ?_) | (with_reducible refine ord_q0 ?_)); intro K hK; first | (refine Or.inr ⟨?_, ?_⟩; (focus (go_simp; first | done | (simp [undef]; done))); go_simp; (with_reducible refine hK _ ?_); clear hK K) | (refine Or.inl ⟨?_, ?_⟩; (focus (go_simp; done)); apply Exists.intro; refine And.intro ?_ ?_; (focus (first | (intro wq hq; obtain ⟨hcq, hfq⟩ := G.old hq; go_simp; (first | done | exact rfl); done) | (intro wq; go_simp; (first | done | exact rfl); done))); go_simp; (with_reducible refine hK _ ?_); clear hK K) | fail))
  obtain ⟨r1, r2, r3, r4⟩ := hbx.grow hG.b
  have ltR := cell_lt r1
  replace hbw := G.trans hbw hG.b
  ((with_reducible refine ord_tail ?_); intro K hK; go_simp; (with_reducible refine hK _ _ ?_); clear hK K)
  (repeat ((first | (with_reducible refine ord_q1 ?_) | (with_reducible refine ord_q0 ?_)); intro K hK; first | (refine Or.inr ⟨?_, ?_⟩; (focus (go_simp; first | done | (simp [undef]; done))); go_simp; (with_reducible refine hK _ ?_); clear hK K) | (refine Or.inl ⟨?_, ?_⟩; (focus (go_simp; done)); apply Exists.intro; refine And.intro ?_ ?_; (focus (first | (intro wq hq; obtain ⟨hcq, hfq⟩ := G.old hq; go_simp; (first | done | exact rfl); done) | (intro wq; go_simp; (first | done | exact rfl); done))); go_simp; (with_reducible refine hK _ ?_); clear hK K) | fail))
  (with_reducible refine ord_nil ?_)
  go_wp2_with fail
  exact bodyPost_ret (v := .tuple #[.agg #[.int .i64 p.1, .int .i64 p.2.1], .int .i64 p.2.2]) (by simp only [results, Tryd.results28]; go_simp) rfl ⟨rfl, (hbw.setCell (by simp; omega) _).setCell (by simp; omega) _⟩
theorem refmul_any (n s m t : Int) (w : World) :
    Calls Tryd.prog 28 #[.agg #[.int .i64 n, .int .i64 s], .agg #[.int .i64 m, .int .i64 t]] w (RetF (mulN n s m t) w) := by
  by_cases h : okN n s = true ∧ okN m t = true
  · exact refmul_ok n s m t w h.1 h.2
  · exact refmul_bad n s m t w h
end Go.Proofs.YtoipapcbngknfaaDoor
