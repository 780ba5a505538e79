/- What decimal.Div and Round compute. -/
import Derived.Test.YtoipapcbngknfaaDoorDiv1
import Derived.Test.YtoipapcbngknfaaDoorRef2
namespace Go.Proofs.YtoipapcbngknfaaDoor
set_option linter.unusedVariables false
set_option linter.unnecessarySimpa false
set_option linter.unusedSimpArgs false
open Go.RowKit

/-- The quotient of n / 10^j and m / 10^i in units of the scale q, rounded. -/
def quoV (n : Int) (j : Nat) (m : Int) (i q : Nat) : Int := (if n < 0 ↔ m < 0 then 1 else -1) * rnd (max n (-n) * p10 (i + q)) (max m (-m) * p10 j)
/-- What Div gives. -/
def divN (n s m t sc : Int) : Int × Int × Int :=
  if okN n s = true ∧ okN m t = true ∧ 0 ≤ sc ∧ sc ≤ 12 then (if m = 0 then (0, 0, 15) else fitN (quoV n s.toNat m t.toNat sc.toNat) sc) else (0, 0, 2)
theorem divR_fit {V R : Int} (h : DivR V R) (s : Int) : fitN R s = fitN V s ∧ fitN (-R) s = fitN (-V) s := by
  obtain ⟨h0, h1, rfl | ⟨h2, h3⟩⟩ := h
  · exact ⟨rfl, rfl⟩
  · unfold fitN
    rw [if_neg (by omega), if_neg (by omega), if_neg (by omega), if_neg (by omega)]
    exact ⟨rfl, rfl⟩
theorem quo_exp (X Y : Int) (i q j : Nat) : rnd (X * p10 ((q : Int) + i - j).toNat) (Y * p10 (-((q : Int) + i - j)).toNat) = rnd (X * p10 (i + q)) (Y * p10 j) := by
  rcases Nat.lt_or_ge (i + q) j with h | h
  · rw [show ((q : Int) + i - j).toNat = 0 by omega, show (-((q : Int) + i - j)).toNat = j - (i + q) by omega, p10_zero, Int.mul_one]
    exact rnd_down (by omega)
  · rw [show ((q : Int) + i - j).toNat = i + q - j by omega, show (-((q : Int) + i - j)).toNat = 0 by omega, p10_zero, Int.mul_one]
    exact rnd_up h
set_option maxRecDepth 20000 in set_option maxHeartbeats 400000 in
theorem div_bad (n s m t sc : Int) (w : World) (h1 : (Lit.int .i64 n).wf = true) (h2 : (Lit.int .i64 m).wf = true) (hbad : ¬ (okN n s = true ∧ okN m t = true)) :
    Calls Tryd.prog 14 #[.agg #[.int .i64 n, .int .i64 s], .agg #[.int .i64 m, .int .i64 t], .int .i64 sc] w (RetF (divN n s m t sc) w) := by
  have hr : Hid (divN n s m t sc = (0, 0, 2)) := if_neg (fun h => hbad ⟨h.1, h.2.1⟩)
  have C := Lib.hid (fun A c w hx => checkL2_any n s m t A c w hx h1 h2)
  rw [if_neg hbad] at C
  clear hbad h1 h2
  go_enter Tryd.func14, Tryd.ntmps14
  go_wp2_with fail
  refine (C.out _ _ _ ?_).mono ?_
  · exact NumsAt.two (by simp)
  rintro e w1 ⟨rfl, hb⟩
  
  replace k0 := G.cell (a := ⟨w.heap.size, 0, none⟩) (v := .int .i64 n) (by go_simp) hb
  replace k1 := G.cell (a := ⟨w.heap.size, 1, none⟩) (v := .int .i64 s) (by go_simp) hb
  replace k2 := G.cell (a := ⟨w.heap.size + 1, 0, none⟩) (v := .int .i64 m) (by go_simp) hb
  replace k3 := G.cell (a := ⟨w.heap.size + 1, 1, none⟩) (v := .int .i64 t) (by go_simp) hb
  replace k4 := G.cell (a := ⟨w.heap.size + 1 + 1, 0, none⟩) (v := .int .i64 0) (by go_simp) hb
  replace k5 := G.cell (a := ⟨w.heap.size + 1 + 1, 1, none⟩) (v := .int .i64 0) (by go_simp) hb
  replace lt0 := cell_lt k0
  replace lt1 := cell_lt k1
  replace lt2 := cell_lt k2
  replace lt3 := cell_lt k3
  replace lt4 := cell_lt k4
  replace lt5 := cell_lt k5
  obtain ⟨hc, hf⟩ := G.old hb
  have z0 : w1.frozen? ⟨w.heap.size + 1 + 1, 0, none⟩ = false := (hf _ _ (by simp)).trans (by go_simp)
  have z1 : w1.frozen? ⟨w.heap.size + 1 + 1, 1, none⟩ = false := (hf _ _ (by simp)).trans (by go_simp)
  have hbw : Below w.heap.size w w1 := by repeat (first | with_reducible assumption | with_reducible exact G.refl _ | with_reducible refine G.drew ?_ | with_reducible refine G.drewN ?_ _ | with_reducible refine G.alloc ?_ _ | with_reducible refine Below.setCell ?_ (by first | (simp; done) | (simp; omega)) _ | with_reducible refine G.trans ?_ hb12 | with_reducible refine G.trans ?_ hb11 | with_reducible refine G.trans ?_ hb10 | with_reducible refine G.trans ?_ hb9 | with_reducible refine G.trans ?_ hb8 | with_reducible refine G.trans ?_ hb7 | with_reducible refine G.trans ?_ hb6 | with_reducible refine G.trans ?_ hb5 | with_reducible refine G.trans ?_ hb4 | with_reducible refine G.trans ?_ hb3 | with_reducible refine G.trans ?_ hb2 | with_reducible refine G.trans ?_ hb1 | with_reducible refine G.trans ?_ hb | assumption)
  clear hc hf hb
  go_wp2_with fail
  exact bodyPost_ret (v := .tuple #[.agg #[.int .i64 0, .int .i64 0], .int .i64 2]) (by simp only [results, Tryd.results14]; go_simp) rfl ⟨by rw [hr.out], (hbw.setCell (by simp; omega) _).setCell (by simp; omega) _⟩
set_option maxRecDepth 20000 in set_option maxHeartbeats 400000 in
theorem div_low (n s m t sc : Int) (w : World) (h1 : okN n s = true) (h2 : okN m t = true) (hsc : sc < 0) :
    Calls Tryd.prog 14 #[.agg #[.int .i64 n, .int .i64 s], .agg #[.int .i64 m, .int .i64 t], .int .i64 sc] w (RetF (divN n s m t sc) w) := by
  have hr : Hid (divN n s m t sc = (0, 0, 2)) := if_neg (fun h => by omega)
  have C := Lib.hid (fun A c w hx => checkL2_any n s m t A c w hx (wf_ok h1) (wf_ok h2))
  rw [if_pos ⟨h1, h2⟩] at C
  clear h1 h2
  go_enter Tryd.func14, Tryd.ntmps14
  go_wp2_with fail
  refine (C.out _ _ _ ?_).mono ?_
  · exact NumsAt.two (by simp)
  rintro e w1 ⟨rfl, hb⟩
  
  replace k0 := G.cell (a := ⟨w.heap.size, 0, none⟩) (v := .int .i64 n) (by go_simp) hb
  replace k1 := G.cell (a := ⟨w.heap.size, 1, none⟩) (v := .int .i64 s) (by go_simp) hb
  replace k2 := G.cell (a := ⟨w.heap.size + 1, 0, none⟩) (v := .int .i64 m) (by go_simp) hb
  replace k3 := G.cell (a := ⟨w.heap.size + 1, 1, none⟩) (v := .int .i64 t) (by go_simp) hb
  replace k4 := G.cell (a := ⟨w.heap.size + 1 + 1, 0, none⟩) (v := .int .i64 0) (by go_simp) hb
  replace k5 := G.cell (a := ⟨w.heap.size + 1 + 1, 1, none⟩) (v := .int .i64 0) (by go_simp) hb
  replace lt0 := cell_lt k0
  replace lt1 := cell_lt k1
  replace lt2 := cell_lt k2
  replace lt3 := cell_lt k3
  replace lt4 := cell_lt k4
  replace lt5 := cell_lt k5
  obtain ⟨hc, hf⟩ := G.old hb
  have z0 : w1.frozen? ⟨w.heap.size + 1 + 1, 0, none⟩ = false := (hf _ _ (by simp)).trans (by go_simp)
  have z1 : w1.frozen? ⟨w.heap.size + 1 + 1, 1, none⟩ = false := (hf _ _ (by simp)).trans (by go_simp)
  have hbw : Below w.heap.size w w1 := by repeat (first | with_reducible assumption | with_reducible exact G.refl _ | with_reducible refine G.drew ?_ | with_reducible refine G.drewN ?_ _ | with_reducible refine G.alloc ?_ _ | with_reducible refine Below.setCell ?_ (by first | (simp; done) | (simp; omega)) _ | with_reducible refine G.trans ?_ hb12 | with_reducible refine G.trans ?_ hb11 | with_reducible refine G.trans ?_ hb10 | with_reducible refine G.trans ?_ hb9 | with_reducible refine G.trans ?_ hb8 | with_reducible refine G.trans ?_ hb7 | with_reducible refine G.trans ?_ hb6 | with_reducible refine G.trans ?_ hb5 | with_reducible refine G.trans ?_ hb4 | with_reducible refine G.trans ?_ hb3 | with_reducible refine G.trans ?_ hb2 | with_reducible refine G.trans ?_ hb1 | with_reducible refine G.trans ?_ hb | assumption)
  clear hc hf hb
  go_wp2_with fail
  exact bodyPost_ret (v := .tuple #[.agg #[.int .i64 0, .int .i64 0], .int .i64 2]) (by simp only [results, Tryd.results14]; go_simp) rfl ⟨by rw [hr.out], (hbw.setCell (by simp; omega) _).setCell (by simp; omega) _⟩
set_option maxRecDepth 20000 in set_option maxHeartbeats 400000 in
theorem div_high (n s m t sc : Int) (w : World) (h1 : okN n s = true) (h2 : okN m t = true) (hsc : 12 < sc) :
    Calls Tryd.prog 14 #[.agg #[.int .i64 n, .int .i64 s], .agg #[.int .i64 m, .int .i64 t], .int .i64 sc] w (RetF (divN n s m t sc) w) := by
  have hr : Hid (divN n s m t sc = (0, 0, 2)) := if_neg (fun h => by omega)
  have C := Lib.hid (fun A c w hx => checkL2_any n s m t A c w hx (wf_ok h1) (wf_ok h2))
  rw [if_pos ⟨h1, h2⟩] at C
  clear h1 h2
  go_enter Tryd.func14, Tryd.ntmps14
  go_wp2_with fail
  refine (C.out _ _ _ ?_).mono ?_
  · exact NumsAt.two (by simp)
  rintro e w1 ⟨rfl, hb⟩
  
  replace k0 := G.cell (a := ⟨w.heap.size, 0, none⟩) (v := .int .i64 n) (by go_simp) hb
  replace k1 := G.cell (a := ⟨w.heap.size, 1, none⟩) (v := .int .i64 s) (by go_simp) hb
  replace k2 := G.cell (a := ⟨w.heap.size + 1, 0, none⟩) (v := .int .i64 m) (by go_simp) hb
  replace k3 := G.cell (a := ⟨w.heap.size + 1, 1, none⟩) (v := .int .i64 t) (by go_simp) hb
  replace k4 := G.cell (a := ⟨w.heap.size + 1 + 1, 0, none⟩) (v := .int .i64 0) (by go_simp) hb
  replace k5 := G.cell (a := ⟨w.heap.size + 1 + 1, 1, none⟩) (v := .int .i64 0) (by go_simp) hb
  replace lt0 := cell_lt k0
  replace lt1 := cell_lt k1
  replace lt2 := cell_lt k2
  replace lt3 := cell_lt k3
  replace lt4 := cell_lt k4
  replace lt5 := cell_lt k5
  obtain ⟨hc, hf⟩ := G.old hb
  have z0 : w1.frozen? ⟨w.heap.size + 1 + 1, 0, none⟩ = false := (hf _ _ (by simp)).trans (by go_simp)
  have z1 : w1.frozen? ⟨w.heap.size + 1 + 1, 1, none⟩ = false := (hf _ _ (by simp)).trans (by go_simp)
  have hbw : Below w.heap.size w w1 := by repeat (first | with_reducible assumption | with_reducible exact G.refl _ | with_reducible refine G.drew ?_ | with_reducible refine G.drewN ?_ _ | with_reducible refine G.alloc ?_ _ | with_reducible refine Below.setCell ?_ (by first | (simp; done) | (simp; omega)) _ | with_reducible refine G.trans ?_ hb12 | with_reducible refine G.trans ?_ hb11 | with_reducible refine G.trans ?_ hb10 | with_reducible refine G.trans ?_ hb9 | with_reducible refine G.trans ?_ hb8 | with_reducible refine G.trans ?_ hb7 | with_reducible refine G.trans ?_ hb6 | with_reducible refine G.trans ?_ hb5 | with_reducible refine G.trans ?_ hb4 | with_reducible refine G.trans ?_ hb3 | with_reducible refine G.trans ?_ hb2 | with_reducible refine G.trans ?_ hb1 | with_reducible refine G.trans ?_ hb | assumption)
  clear hc hf hb
  go_wp2_with fail
  exact bodyPost_ret (v := .tuple #[.agg #[.int .i64 0, .int .i64 0], .int .i64 2]) (by simp only [results, Tryd.results14]; go_simp) rfl ⟨by rw [hr.out], (hbw.setCell (by simp; omega) _).setCell (by simp; omega) _⟩
set_option maxRecDepth 20000 in set_option maxHeartbeats 400000 in
theorem div_zero (n s m t sc : Int) (w : World) (h1 : okN n s = true) (h2 : okN m t = true) (hs0 : 0 ≤ sc) (hs1 : sc ≤ 12) (hm : m = 0) :
    Calls Tryd.prog 14 #[.agg #[.int .i64 n, .int .i64 s], .agg #[.int .i64 m, .int .i64 t], .int .i64 sc] w (RetF (divN n s m t sc) w) := by
  have hr : Hid (divN n s m t sc = (0, 0, 15)) := by unfold Hid divN; rw [if_pos ⟨h1, h2, hs0, hs1⟩, if_pos hm]
  have C := Lib.hid (fun A c w hx => checkL2_any n s m t A c w hx (wf_ok h1) (wf_ok h2))
  rw [if_pos ⟨h1, h2⟩] at C
  clear h1 h2
  subst hm
  go_enter Tryd.func14, Tryd.ntmps14
  go_wp2_with fail
  refine (C.out _ _ _ ?_).mono ?_
  · exact NumsAt.two (by simp)
  rintro e w1 ⟨rfl, hb⟩
  
  replace k0 := G.cell (a := ⟨w.heap.size, 0, none⟩) (v := .int .i64 n) (by go_simp) hb
  replace k1 := G.cell (a := ⟨w.heap.size, 1, none⟩) (v := .int .i64 s) (by go_simp) hb
  replace k2 := G.cell (a := ⟨w.heap.size + 1, 0, none⟩) (v := .int .i64 0) (by go_simp) hb
  replace k3 := G.cell (a := ⟨w.heap.size + 1, 1, none⟩) (v := .int .i64 t) (by go_simp) hb
  replace k4 := G.cell (a := ⟨w.heap.size + 1 + 1, 0, none⟩) (v := .int .i64 0) (by go_simp) hb
  replace k5 := G.cell (a := ⟨w.heap.size + 1 + 1, 1, none⟩) (v := .int .i64 0) (by go_simp) hb
  replace lt0 := cell_lt k0
  replace lt1 := cell_lt k1
  replace lt2 := cell_lt k2
  replace lt3 := cell_lt k3
  replace lt4 := cell_lt k4
  replace lt5 := cell_lt k5
  obtain ⟨hc, hf⟩ := G.old hb
  have z0 : w1.frozen? ⟨w.heap.size + 1 + 1, 0, none⟩ = false := (hf _ _ (by simp)).trans (by go_simp)
  have z1 : w1.frozen? ⟨w.heap.size + 1 + 1, 1, none⟩ = false := (hf _ _ (by simp)).trans (by go_simp)
  have hbw : Below w.heap.size w w1 := by repeat (first | with_reducible assumption | with_reducible exact G.refl _ | with_reducible refine G.drew ?_ | with_reducible refine G.drewN ?_ _ | with_reducible refine G.alloc ?_ _ | with_reducible refine Below.setCell ?_ (by first | (simp; done) | (simp; omega)) _ | with_reducible refine G.trans ?_ hb12 | with_reducible refine G.trans ?_ hb11 | with_reducible refine G.trans ?_ hb10 | with_reducible refine G.trans ?_ hb9 | with_reducible refine G.trans ?_ hb8 | with_reducible refine G.trans ?_ hb7 | with_reducible refine G.trans ?_ hb6 | with_reducible refine G.trans ?_ hb5 | with_reducible refine G.trans ?_ hb4 | with_reducible refine G.trans ?_ hb3 | with_reducible refine G.trans ?_ hb2 | with_reducible refine G.trans ?_ hb1 | with_reducible refine G.trans ?_ hb | assumption)
  clear hc hf hb
  go_wp2_with fail
  exact bodyPost_ret (v := .tuple #[.agg #[.int .i64 0, .int .i64 0], .int .i64 15]) (by simp only [results, Tryd.results14]; go_simp) rfl ⟨by rw [hr.out], (hbw.setCell (by simp; omega) _).setCell (by simp; omega) _⟩
set_option maxRecDepth 20000 in set_option maxHeartbeats 400000 in
theorem div_nn (n m : Int) (j i q : Nat) (w : World) (h1 : okN n j = true) (h2 : okN m i = true) (hq : q ≤ 12) (hn : n < 0) (hm : m < 0) (hm0 : m ≠ 0) :
    Calls Tryd.prog 14 #[.agg #[.int .i64 n, .int .i64 j], .agg #[.int .i64 m, .int .i64 i], .int .i64 q] w (RetF (divN n j m i q) w) := by
  have C := Lib.hid (fun A c w hx => checkL2_any n j m i A c w hx (wf_ok h1) (wf_ok h2))
  rw [if_pos ⟨h1, h2⟩] at C
  have o1 := okN_iff.1 h1
  have o2 := okN_iff.1 h2
  have hr : Hid (divN n j m i q = fitN (rnd (max n (-n) * p10 (i + q)) (max m (-m) * p10 j)) q) := by
    unfold Hid divN
    rw [if_pos ⟨h1, h2, by omega, by omega⟩, if_neg hm0]
    unfold quoV
    rw [if_pos (by omega)]
    simp only [Int.toNat_natCast, Int.one_mul, Int.neg_mul]
  have D := fun w => divide_any n m ((q : Int) + i - j) w o1.1 o1.2.1 o2.1 o2.2.1 hm0 (by omega) (by omega)
  rw [quo_exp] at D
  generalize rnd (max n (-n) * p10 (i + q)) (max m (-m) * p10 j) = V at *
  replace D := Lib.hid D
  have e1 : IntKind.i64.wrap ((q : Int) + i) = (q : Int) + i := IntWalk.i64_in _ (by omega)
  obtain ⟨E, hE⟩ : ∃ E, (q : Int) + i - j = E := ⟨_, rfl⟩
  have e2 : IntKind.i64.wrap ((q : Int) + i - j) = E := by rw [← hE]; exact IntWalk.i64_in _ (by omega)
  rw [hE] at D
  have d1 : decide (n < 0) = true := by simp; omega
  have d2 : decide (m < 0) = true := by simp; omega
  clear h1 h2 o1 o2 hE
  go_enter Tryd.func14, Tryd.ntmps14
  go_wp2_with fail
  refine (C.out _ _ _ ?_).mono ?_
  · exact NumsAt.two (by simp)
  rintro e w1 ⟨rfl, hb⟩
  
  replace k0 := G.cell (a := ⟨w.heap.size, 0, none⟩) (v := .int .i64 n) (by go_simp) hb
  replace k1 := G.cell (a := ⟨w.heap.size, 1, none⟩) (v := .int .i64 j) (by go_simp) hb
  replace k2 := G.cell (a := ⟨w.heap.size + 1, 0, none⟩) (v := .int .i64 m) (by go_simp) hb
  replace k3 := G.cell (a := ⟨w.heap.size + 1, 1, none⟩) (v := .int .i64 i) (by go_simp) hb
  replace k4 := G.cell (a := ⟨w.heap.size + 1 + 1, 0, none⟩) (v := .int .i64 0) (by go_simp) hb
  replace k5 := G.cell (a := ⟨w.heap.size + 1 + 1, 1, none⟩) (v := .int .i64 0) (by go_simp) hb
  replace lt0 := cell_lt k0
  replace lt1 := cell_lt k1
  replace lt2 := cell_lt k2
  replace lt3 := cell_lt k3
  replace lt4 := cell_lt k4
  replace lt5 := cell_lt k5
  obtain ⟨hc, hf⟩ := G.old hb
  have z0 : w1.frozen? ⟨w.heap.size + 1 + 1, 0, none⟩ = false := (hf _ _ (by simp)).trans (by go_simp)
  have z1 : w1.frozen? ⟨w.heap.size + 1 + 1, 1, none⟩ = false := (hf _ _ (by simp)).trans (by go_simp)
  have hbw : Below w.heap.size w w1 := by repeat (first | with_reducible assumption | with_reducible exact G.refl _ | with_reducible refine G.drew ?_ | with_reducible refine G.drewN ?_ _ | with_reducible refine G.alloc ?_ _ | with_reducible refine Below.setCell ?_ (by first | (simp; done) | (simp; omega)) _ | with_reducible refine G.trans ?_ hb12 | with_reducible refine G.trans ?_ hb11 | with_reducible refine G.trans ?_ hb10 | with_reducible refine G.trans ?_ hb9 | with_reducible refine G.trans ?_ hb8 | with_reducible refine G.trans ?_ hb7 | with_reducible refine G.trans ?_ hb6 | with_reducible refine G.trans ?_ hb5 | with_reducible refine G.trans ?_ hb4 | with_reducible refine G.trans ?_ hb3 | with_reducible refine G.trans ?_ hb2 | with_reducible refine G.trans ?_ hb1 | with_reducible refine G.trans ?_ hb | assumption)
  clear hc hf hb
  have hbr : Box2 w1 (w.heap.size + 1 + 1) (.int .i64 0) (.int .i64 0) := ⟨k4, k5, z0, z1⟩
  go_wp2_with fail
  refine (D.out _).mono ?_
  rintro e w2 ⟨R, rfl, hR, hb⟩
  replace hbr := Box2.grow hbr hb
  replace k0 := G.cell (a := ⟨w.heap.size, 0, none⟩) (v := .int .i64 n) (by go_simp) hb
  replace k1 := G.cell (a := ⟨w.heap.size, 1, none⟩) (v := .int .i64 j) (by go_simp) hb
  replace k2 := G.cell (a := ⟨w.heap.size + 1, 0, none⟩) (v := .int .i64 m) (by go_simp) hb
  replace k3 := G.cell (a := ⟨w.heap.size + 1, 1, none⟩) (v := .int .i64 i) (by go_simp) hb
  replace k4 := G.cell (a := ⟨w.heap.size + 1 + 1, 0, none⟩) (v := .int .i64 0) (by go_simp) hb
  replace k5 := G.cell (a := ⟨w.heap.size + 1 + 1, 1, none⟩) (v := .int .i64 0) (by go_simp) hb
  replace lt0 := cell_lt k0
  replace lt1 := cell_lt k1
  replace lt2 := cell_lt k2
  replace lt3 := cell_lt k3
  replace lt4 := cell_lt k4
  replace lt5 := cell_lt k5
  replace hbw := G.trans hbw hb
  have hfit := Lib.hid (divR_fit hR q)
  obtain ⟨hR0, hR9, _⟩ := hR
  have F := Lib.hid (fun w => fit_any (R) q w (by omega) (by omega))
  have hng : IntKind.i64.wrap (-R) = -R := IntWalk.i64_in _ (by omega)
  clear hb z0 z1
  go_wp2_with fail
  refine (F.out _).mono ?_
  rintro e w3 ⟨rfl, hb3⟩
  rw [hfit.out.1, ← hr.out]
  obtain ⟨r1, r2, r3, r4⟩ := hbr.grow hb3
  have ltR := cell_lt r1
  go_wp2_with fail
  exact bodyPost_ret (v := .tuple #[.agg #[.int .i64 (divN n j m i q).1, .int .i64 (divN n j m i q).2.1], .int .i64 (divN n j m i q).2.2]) (by simp only [results, Tryd.results14]; go_simp) rfl ⟨rfl, ((G.trans hbw hb3).setCell (by simp; omega) _).setCell (by simp; omega) _⟩
set_option maxRecDepth 20000 in set_option maxHeartbeats 400000 in
theorem div_np (n m : Int) (j i q : Nat) (w : World) (h1 : okN n j = true) (h2 : okN m i = true) (hq : q ≤ 12) (hn : n < 0) (hm : ¬ m < 0) (hm0 : m ≠ 0) :
    Calls Tryd.prog 14 #[.agg #[.int .i64 n, .int .i64 j], .agg #[.int .i64 m, .int .i64 i], .int .i64 q] w (RetF (divN n j m i q) w) := by
  have C := Lib.hid (fun A c w hx => checkL2_any n j m i A c w hx (wf_ok h1) (wf_ok h2))
  rw [if_pos ⟨h1, h2⟩] at C
  have o1 := okN_iff.1 h1
  have o2 := okN_iff.1 h2
  have hr : Hid (divN n j m i q = fitN (-rnd (max n (-n) * p10 (i + q)) (max m (-m) * p10 j)) q) := by
    unfold Hid divN
    rw [if_pos ⟨h1, h2, by omega, by omega⟩, if_neg hm0]
    unfold quoV
    rw [if_neg (by omega)]
    simp only [Int.toNat_natCast, Int.one_mul, Int.neg_mul]
  have D := fun w => divide_any n m ((q : Int) + i - j) w o1.1 o1.2.1 o2.1 o2.2.1 hm0 (by omega) (by omega)
  rw [quo_exp] at D
  generalize rnd (max n (-n) * p10 (i + q)) (max m (-m) * p10 j) = V at *
  replace D := Lib.hid D
  have e1 : IntKind.i64.wrap ((q : Int) + i) = (q : Int) + i := IntWalk.i64_in _ (by omega)
  obtain ⟨E, hE⟩ : ∃ E, (q : Int) + i - j = E := ⟨_, rfl⟩
  have e2 : IntKind.i64.wrap ((q : Int) + i - j) = E := by rw [← hE]; exact IntWalk.i64_in _ (by omega)
  rw [hE] at D
  have d1 : decide (n < 0) = true := by simp; omega
  have d2 : decide (m < 0) = false := by simp; omega
  clear h1 h2 o1 o2 hE
  go_enter Tryd.func14, Tryd.ntmps14
  go_wp2_with fail
  refine (C.out _ _ _ ?_).mono ?_
  · exact NumsAt.two (by simp)
  rintro e w1 ⟨rfl, hb⟩
  
  replace k0 := G.cell (a := ⟨w.heap.size, 0, none⟩) (v := .int .i64 n) (by go_simp) hb
  replace k1 := G.cell (a := ⟨w.heap.size, 1, none⟩) (v := .int .i64 j) (by go_simp) hb
  replace k2 := G.cell (a := ⟨w.heap.size + 1, 0, none⟩) (v := .int .i64 m) (by go_simp) hb
  replace k3 := G.cell (a := ⟨w.heap.size + 1, 1, none⟩) (v := .int .i64 i) (by go_simp) hb
  replace k4 := G.cell (a := ⟨w.heap.size + 1 + 1, 0, none⟩) (v := .int .i64 0) (by go_simp) hb
  replace k5 := G.cell (a := ⟨w.heap.size + 1 + 1, 1, none⟩) (v := .int .i64 0) (by go_simp) hb
  replace lt0 := cell_lt k0
  replace lt1 := cell_lt k1
  replace lt2 := cell_lt k2
  replace lt3 := cell_lt k3
  replace lt4 := cell_lt k4
  replace lt5 := cell_lt k5
  obtain ⟨hc, hf⟩ := G.old hb
  have z0 : w1.frozen? ⟨w.heap.size + 1 + 1, 0, none⟩ = false := (hf _ _ (by simp)).trans (by go_simp)
  have z1 : w1.frozen? ⟨w.heap.size + 1 + 1, 1, none⟩ = false := (hf _ _ (by simp)).trans (by go_simp)
  have hbw : Below w.heap.size w w1 := by repeat (first | with_reducible assumption | with_reducible exact G.refl _ | with_reducible refine G.drew ?_ | with_reducible refine G.drewN ?_ _ | with_reducible refine G.alloc ?_ _ | with_reducible refine Below.setCell ?_ (by first | (simp; done) | (simp; omega)) _ | with_reducible refine G.trans ?_ hb12 | with_reducible refine G.trans ?_ hb11 | with_reducible refine G.trans ?_ hb10 | with_reducible refine G.trans ?_ hb9 | with_reducible refine G.trans ?_ hb8 | with_reducible refine G.trans ?_ hb7 | with_reducible refine G.trans ?_ hb6 | with_reducible refine G.trans ?_ hb5 | with_reducible refine G.trans ?_ hb4 | with_reducible refine G.trans ?_ hb3 | with_reducible refine G.trans ?_ hb2 | with_reducible refine G.trans ?_ hb1 | with_reducible refine G.trans ?_ hb | assumption)
  clear hc hf hb
  have hbr : Box2 w1 (w.heap.size + 1 + 1) (.int .i64 0) (.int .i64 0) := ⟨k4, k5, z0, z1⟩
  go_wp2_with fail
  refine (D.out _).mono ?_
  rintro e w2 ⟨R, rfl, hR, hb⟩
  replace hbr := Box2.grow hbr hb
  replace k0 := G.cell (a := ⟨w.heap.size, 0, none⟩) (v := .int .i64 n) (by go_simp) hb
  replace k1 := G.cell (a := ⟨w.heap.size, 1, none⟩) (v := .int .i64 j) (by go_simp) hb
  replace k2 := G.cell (a := ⟨w.heap.size + 1, 0, none⟩) (v := .int .i64 m) (by go_simp) hb
  replace k3 := G.cell (a := ⟨w.heap.size + 1, 1, none⟩) (v := .int .i64 i) (by go_simp) hb
  replace k4 := G.cell (a := ⟨w.heap.size + 1 + 1, 0, none⟩) (v := .int .i64 0) (by go_simp) hb
  replace k5 := G.cell (a := ⟨w.heap.size + 1 + 1, 1, none⟩) (v := .int .i64 0) (by go_simp) hb
  replace lt0 := cell_lt k0
  replace lt1 := cell_lt k1
  replace lt2 := cell_lt k2
  replace lt3 := cell_lt k3
  replace lt4 := cell_lt k4
  replace lt5 := cell_lt k5
  replace hbw := G.trans hbw hb
  have hfit := Lib.hid (divR_fit hR q)
  obtain ⟨hR0, hR9, _⟩ := hR
  have F := Lib.hid (fun w => fit_any (-R) q w (by omega) (by omega))
  have hng : IntKind.i64.wrap (-R) = -R := IntWalk.i64_in _ (by omega)
  clear hb z0 z1
  go_wp2_with fail
  refine (F.out _).mono ?_
  rintro e w3 ⟨rfl, hb3⟩
  rw [hfit.out.2, ← hr.out]
  obtain ⟨r1, r2, r3, r4⟩ := hbr.grow hb3
  have ltR := cell_lt r1
  go_wp2_with fail
  exact bodyPost_ret (v := .tuple #[.agg #[.int .i64 (divN n j m i q).1, .int .i64 (divN n j m i q).2.1], .int .i64 (divN n j m i q).2.2]) (by simp only [results, Tryd.results14]; go_simp) rfl ⟨rfl, ((G.trans hbw hb3).setCell (by simp; omega) _).setCell (by simp; omega) _⟩
set_option maxRecDepth 20000 in set_option maxHeartbeats 400000 in
theorem div_pn (n m : Int) (j i q : Nat) (w : World) (h1 : okN n j = true) (h2 : okN m i = true) (hq : q ≤ 12) (hn : ¬ n < 0) (hm : m < 0) (hm0 : m ≠ 0) :
    Calls Tryd.prog 14 #[.agg #[.int .i64 n, .int .i64 j], .agg #[.int .i64 m, .int .i64 i], .int .i64 q] w (RetF (divN n j m i q) w) := by
  have C := Lib.hid (fun A c w hx => checkL2_any n j m i A c w hx (wf_ok h1) (wf_ok h2))
  rw [if_pos ⟨h1, h2⟩] at C
  have o1 := okN_iff.1 h1
  have o2 := okN_iff.1 h2
  have hr : Hid (divN n j m i q = fitN (-rnd (max n (-n) * p10 (i + q)) (max m (-m) * p10 j)) q) := by
    unfold Hid divN
    rw [if_pos ⟨h1, h2, by omega, by omega⟩, if_neg hm0]
    unfold quoV
    rw [if_neg (by omega)]
    simp only [Int.toNat_natCast, Int.one_mul, Int.neg_mul]
  have D := fun w => divide_any n m ((q : Int) + i - j) w o1.1 o1.2.1 o2.1 o2.2.1 hm0 (by omega) (by omega)
  rw [quo_exp] at D
  generalize rnd (max n (-n) * p10 (i + q)) (max m (-m) * p10 j) = V at *
  replace D := Lib.hid D
  have e1 : IntKind.i64.wrap ((q : Int) + i) = (q : Int) + i := IntWalk.i64_in _ (by omega)
  obtain ⟨E, hE⟩ : ∃ E, (q : Int) + i - j = E := ⟨_, rfl⟩
  have e2 : IntKind.i64.wrap ((q : Int) + i - j) = E := by rw [← hE]; exact IntWalk.i64_in _ (by omega)
  rw [hE] at D
  have d1 : decide (n < 0) = false := by simp; omega
  have d2 : decide (m < 0) = true := by simp; omega
  clear h1 h2 o1 o2 hE
  go_enter Tryd.func14, Tryd.ntmps14
  go_wp2_with fail
  refine (C.out _ _ _ ?_).mono ?_
  · exact NumsAt.two (by simp)
  rintro e w1 ⟨rfl, hb⟩
  
  replace k0 := G.cell (a := ⟨w.heap.size, 0, none⟩) (v := .int .i64 n) (by go_simp) hb
  replace k1 := G.cell (a := ⟨w.heap.size, 1, none⟩) (v := .int .i64 j) (by go_simp) hb
  replace k2 := G.cell (a := ⟨w.heap.size + 1, 0, none⟩) (v := .int .i64 m) (by go_simp) hb
  replace k3 := G.cell (a := ⟨w.heap.size + 1, 1, none⟩) (v := .int .i64 i) (by go_simp) hb
  replace k4 := G.cell (a := ⟨w.heap.size + 1 + 1, 0, none⟩) (v := .int .i64 0) (by go_simp) hb
  replace k5 := G.cell (a := ⟨w.heap.size + 1 + 1, 1, none⟩) (v := .int .i64 0) (by go_simp) hb
  replace lt0 := cell_lt k0
  replace lt1 := cell_lt k1
  replace lt2 := cell_lt k2
  replace lt3 := cell_lt k3
  replace lt4 := cell_lt k4
  replace lt5 := cell_lt k5
  obtain ⟨hc, hf⟩ := G.old hb
  have z0 : w1.frozen? ⟨w.heap.size + 1 + 1, 0, none⟩ = false := (hf _ _ (by simp)).trans (by go_simp)
  have z1 : w1.frozen? ⟨w.heap.size + 1 + 1, 1, none⟩ = false := (hf _ _ (by simp)).trans (by go_simp)
  have hbw : Below w.heap.size w w1 := by repeat (first | with_reducible assumption | with_reducible exact G.refl _ | with_reducible refine G.drew ?_ | with_reducible refine G.drewN ?_ _ | with_reducible refine G.alloc ?_ _ | with_reducible refine Below.setCell ?_ (by first | (simp; done) | (simp; omega)) _ | with_reducible refine G.trans ?_ hb12 | with_reducible refine G.trans ?_ hb11 | with_reducible refine G.trans ?_ hb10 | with_reducible refine G.trans ?_ hb9 | with_reducible refine G.trans ?_ hb8 | with_reducible refine G.trans ?_ hb7 | with_reducible refine G.trans ?_ hb6 | with_reducible refine G.trans ?_ hb5 | with_reducible refine G.trans ?_ hb4 | with_reducible refine G.trans ?_ hb3 | with_reducible refine G.trans ?_ hb2 | with_reducible refine G.trans ?_ hb1 | with_reducible refine G.trans ?_ hb | assumption)
  clear hc hf hb
  have hbr : Box2 w1 (w.heap.size + 1 + 1) (.int .i64 0) (.int .i64 0) := ⟨k4, k5, z0, z1⟩
  go_wp2_with fail
  refine (D.out _).mono ?_
  rintro e w2 ⟨R, rfl, hR, hb⟩
  replace hbr := Box2.grow hbr hb
  replace k0 := G.cell (a := ⟨w.heap.size, 0, none⟩) (v := .int .i64 n) (by go_simp) hb
  replace k1 := G.cell (a := ⟨w.heap.size, 1, none⟩) (v := .int .i64 j) (by go_simp) hb
  replace k2 := G.cell (a := ⟨w.heap.size + 1, 0, none⟩) (v := .int .i64 m) (by go_simp) hb
  replace k3 := G.cell (a := ⟨w.heap.size + 1, 1, none⟩) (v := .int .i64 i) (by go_simp) hb
  replace k4 := G.cell (a := ⟨w.heap.size + 1 + 1, 0, none⟩) (v := .int .i64 0) (by go_simp) hb
  replace k5 := G.cell (a := ⟨w.heap.size + 1 + 1, 1, none⟩) (v := .int .i64 0) (by go_simp) hb
  replace lt0 := cell_lt k0
  replace lt1 := cell_lt k1
  replace lt2 := cell_lt k2
  replace lt3 := cell_lt k3
  replace lt4 := cell_lt k4
  replace lt5 := cell_lt k5
  replace hbw := G.trans hbw hb
  have hfit := Lib.hid (divR_fit hR q)
  obtain ⟨hR0, hR9, _⟩ := hR
  have F := Lib.hid (fun w => fit_any (-R) q w (by omega) (by omega))
  have hng : IntKind.i64.wrap (-R) = -R := IntWalk.i64_in _ (by omega)
  clear hb z0 z1
  go_wp2_with fail
  refine (F.out _).mono ?_
  rintro e w3 ⟨rfl, hb3⟩
  rw [hfit.out.2, ← hr.out]
  obtain ⟨r1, r2, r3, r4⟩ := hbr.grow hb3
  have ltR := cell_lt r1
  go_wp2_with fail
  exact bodyPost_ret (v := .tuple #[.agg #[.int .i64 (divN n j m i q).1, .int .i64 (divN n j m i q).2.1], .int .i64 (divN n j m i q).2.2]) (by simp only [results, Tryd.results14]; go_simp) rfl ⟨rfl, ((G.trans hbw hb3).setCell (by simp; omega) _).setCell (by simp; omega) _⟩
set_option maxRecDepth 20000 in set_option maxHeartbeats 400000 in
theorem div_pp (n m : Int) (j i q : Nat) (w : World) (h1 : okN n j = true) (h2 : okN m i = true) (hq : q ≤ 12) (hn : ¬ n < 0) (hm : ¬ m < 0) (hm0 : m ≠ 0) :
    Calls Tryd.prog 14 #[.agg #[.int .i64 n, .int .i64 j], .agg #[.int .i64 m, .int .i64 i], .int .i64 q] w (RetF (divN n j m i q) w) := by
  have C := Lib.hid (fun A c w hx => checkL2_any n j m i A c w hx (wf_ok h1) (wf_ok h2))
  rw [if_pos ⟨h1, h2⟩] at C
  have o1 := okN_iff.1 h1
  have o2 := okN_iff.1 h2
  have hr : Hid (divN n j m i q = fitN (rnd (max n (-n) * p10 (i + q)) (max m (-m) * p10 j)) q) := by
    unfold Hid divN
    rw [if_pos ⟨h1, h2, by omega, by omega⟩, if_neg hm0]
    unfold quoV
    rw [if_pos (by omega)]
    simp only [Int.toNat_natCast, Int.one_mul, Int.neg_mul]
  have D := fun w => divide_any n m ((q : Int) + i - j) w o1.1 o1.2.1 o2.1 o2.2.1 hm0 (by omega) (by omega)
  rw [quo_exp] at D
  generalize rnd (max n (-n) * p10 (i + q)) (max m (-m) * p10 j) = V at *
  replace D := Lib.hid D
  have e1 : IntKind.i64.wrap ((q : Int) + i) = (q : Int) + i := IntWalk.i64_in _ (by omega)
  obtain ⟨E, hE⟩ : ∃ E, (q : Int) + i - j = E := ⟨_, rfl⟩
  have e2 : IntKind.i64.wrap ((q : Int) + i - j) = E := by rw [← hE]; exact IntWalk.i64_in _ (by omega)
  rw [hE] at D
  have d1 : decide (n < 0) = false := by simp; omega
  have d2 : decide (m < 0) = false := by simp; omega
  clear h1 h2 o1 o2 hE
  go_enter Tryd.func14, Tryd.ntmps14
  go_wp2_with fail
  refine (C.out _ _ _ ?_).mono ?_
  · exact NumsAt.two (by simp)
  rintro e w1 ⟨rfl, hb⟩
  
  replace k0 := G.cell (a := ⟨w.heap.size, 0, none⟩) (v := .int .i64 n) (by go_simp) hb
  replace k1 := G.cell (a := ⟨w.heap.size, 1, none⟩) (v := .int .i64 j) (by go_simp) hb
  replace k2 := G.cell (a := ⟨w.heap.size + 1, 0, none⟩) (v := .int .i64 m) (by go_simp) hb
  replace k3 := G.cell (a := ⟨w.heap.size + 1, 1, none⟩) (v := .int .i64 i) (by go_simp) hb
  replace k4 := G.cell (a := ⟨w.heap.size + 1 + 1, 0, none⟩) (v := .int .i64 0) (by go_simp) hb
  replace k5 := G.cell (a := ⟨w.heap.size + 1 + 1, 1, none⟩) (v := .int .i64 0) (by go_simp) hb
  replace lt0 := cell_lt k0
  replace lt1 := cell_lt k1
  replace lt2 := cell_lt k2
  replace lt3 := cell_lt k3
  replace lt4 := cell_lt k4
  replace lt5 := cell_lt k5
  obtain ⟨hc, hf⟩ := G.old hb
  have z0 : w1.frozen? ⟨w.heap.size + 1 + 1, 0, none⟩ = false := (hf _ _ (by simp)).trans (by go_simp)
  have z1 : w1.frozen? ⟨w.heap.size + 1 + 1, 1, none⟩ = false := (hf _ _ (by simp)).trans (by go_simp)
  have hbw : Below w.heap.size w w1 := by repeat (first | with_reducible assumption | with_reducible exact G.refl _ | with_reducible refine G.drew ?_ | with_reducible refine G.drewN ?_ _ | with_reducible refine G.alloc ?_ _ | with_reducible refine Below.setCell ?_ (by first | (simp; done) | (simp; omega)) _ | with_reducible refine G.trans ?_ hb12 | with_reducible refine G.trans ?_ hb11 | with_reducible refine G.trans ?_ hb10 | with_reducible refine G.trans ?_ hb9 | with_reducible refine G.trans ?_ hb8 | with_reducible refine G.trans ?_ hb7 | with_reducible refine G.trans ?_ hb6 | with_reducible refine G.trans ?_ hb5 | with_reducible refine G.trans ?_ hb4 | with_reducible refine G.trans ?_ hb3 | with_reducible refine G.trans ?_ hb2 | with_reducible refine G.trans ?_ hb1 | with_reducible refine G.trans ?_ hb | assumption)
  clear hc hf hb
  have hbr : Box2 w1 (w.heap.size + 1 + 1) (.int .i64 0) (.int .i64 0) := ⟨k4, k5, z0, z1⟩
  go_wp2_with fail
  refine (D.out _).mono ?_
  rintro e w2 ⟨R, rfl, hR, hb⟩
  replace hbr := Box2.grow hbr hb
  replace k0 := G.cell (a := ⟨w.heap.size, 0, none⟩) (v := .int .i64 n) (by go_simp) hb
  replace k1 := G.cell (a := ⟨w.heap.size, 1, none⟩) (v := .int .i64 j) (by go_simp) hb
  replace k2 := G.cell (a := ⟨w.heap.size + 1, 0, none⟩) (v := .int .i64 m) (by go_simp) hb
  replace k3 := G.cell (a := ⟨w.heap.size + 1, 1, none⟩) (v := .int .i64 i) (by go_simp) hb
  replace k4 := G.cell (a := ⟨w.heap.size + 1 + 1, 0, none⟩) (v := .int .i64 0) (by go_simp) hb
  replace k5 := G.cell (a := ⟨w.heap.size + 1 + 1, 1, none⟩) (v := .int .i64 0) (by go_simp) hb
  replace lt0 := cell_lt k0
  replace lt1 := cell_lt k1
  replace lt2 := cell_lt k2
  replace lt3 := cell_lt k3
  replace lt4 := cell_lt k4
  replace lt5 := cell_lt k5
  replace hbw := G.trans hbw hb
  have hfit := Lib.hid (divR_fit hR q)
  obtain ⟨hR0, hR9, _⟩ := hR
  have F := Lib.hid (fun w => fit_any (R) q w (by omega) (by omega))
  have hng : IntKind.i64.wrap (-R) = -R := IntWalk.i64_in _ (by omega)
  clear hb z0 z1
  go_wp2_with fail
  refine (F.out _).mono ?_
  rintro e w3 ⟨rfl, hb3⟩
  rw [hfit.out.1, ← hr.out]
  obtain ⟨r1, r2, r3, r4⟩ := hbr.grow hb3
  have ltR := cell_lt r1
  go_wp2_with fail
  exact bodyPost_ret (v := .tuple #[.agg #[.int .i64 (divN n j m i q).1, .int .i64 (divN n j m i q).2.1], .int .i64 (divN n j m i q).2.2]) (by simp only [results, Tryd.results14]; go_simp) rfl ⟨rfl, ((G.trans hbw hb3).setCell (by simp; omega) _).setCell (by simp; omega) _⟩
theorem div_any (n s m t sc : Int) (w : World) (h1 : (Lit.int .i64 n).wf = true) (h2 : (Lit.int .i64 m).wf = true) :
    Calls Tryd.prog 14 #[.agg #[.int .i64 n, .int .i64 s], .agg #[.int .i64 m, .int .i64 t], .int .i64 sc] w (RetF (divN n s m t sc) w) := by
  by_cases h : okN n s = true ∧ okN m t = true
  · by_cases hs0 : sc < 0
    · exact div_low n s m t sc w h.1 h.2 hs0
    · by_cases hs1 : 12 < sc
      · exact div_high n s m t sc w h.1 h.2 hs1
      · by_cases hm : m = 0
        · exact div_zero n s m t sc w h.1 h.2 (by omega) (by omega) hm
        · obtain ⟨g1, g2⟩ := h
          obtain ⟨j, rfl, _⟩ := okN_nat g1
          obtain ⟨i, rfl, _⟩ := okN_nat g2
          obtain ⟨q, rfl⟩ : ∃ q : Nat, sc = q := ⟨sc.toNat, by omega⟩
          by_cases hn : n < 0 <;> by_cases hm' : m < 0
          · exact div_nn n m j i q w g1 g2 (by omega) hn hm' hm
          · exact div_np n m j i q w g1 g2 (by omega) hn hm' hm
          · exact div_pn n m j i q w g1 g2 (by omega) hn hm' hm
          · exact div_pp n m j i q w g1 g2 (by omega) hn hm' hm
  · exact div_bad n s m t sc w h1 h2 h
set_option maxRecDepth 20000 in set_option maxHeartbeats 400000 in
theorem round_any (n s sc : Int) (w : World) (h1 : (Lit.int .i64 n).wf = true) :
    Calls Tryd.prog 16 #[.agg #[.int .i64 n, .int .i64 s], .int .i64 sc] w (RetF (divN n s 1 0 sc) w) := by
  have D := fun w => div_any n s 1 0 sc w h1 (by decide)
  generalize divN n s 1 0 sc = p at *
  replace D := Lib.hid D
  clear h1
  go_enter Tryd.func16, Tryd.ntmps16
  go_wp2_with fail
  refine (D.out _).mono ?_
  rintro e w1 ⟨rfl, hb⟩
  obtain ⟨hc, hf⟩ := G.old hb
  go_wp2_with fail
  exact bodyPost_ret (v := .tuple #[.agg #[.int .i64 p.1, .int .i64 p.2.1], .int .i64 p.2.2]) (by simp only [results, Tryd.results16]; go_simp) rfl ⟨rfl, by repeat (first | with_reducible assumption | with_reducible exact G.refl _ | with_reducible refine G.drew ?_ | with_reducible refine G.drewN ?_ _ | with_reducible refine G.alloc ?_ _ | with_reducible refine Below.setCell ?_ (by first | (simp; done) | (simp; omega)) _ | with_reducible refine G.trans ?_ hb12 | with_reducible refine G.trans ?_ hb11 | with_reducible refine G.trans ?_ hb10 | with_reducible refine G.trans ?_ hb9 | with_reducible refine G.trans ?_ hb8 | with_reducible refine G.trans ?_ hb7 | with_reducible refine G.trans ?_ hb6 | with_reducible refine G.trans ?_ hb5 | with_reducible refine G.trans ?_ hb4 | with_reducible refine G.trans ?_ hb3 | with_reducible refine G.trans ?_ hb2 | with_reducible refine G.trans ?_ hb1 | with_reducible refine G.trans ?_ hb | assumption)⟩
end Go.Proofs.YtoipapcbngknfaaDoor
