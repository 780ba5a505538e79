/- What decimal.Add, Sub and Mul compute. -/
import Derived.Test.YtoipapcbngknfaaDoorDec3
namespace Go.Proofs.YtoipapcbngknfaaDoor
set_option linter.unusedVariables false
set_option linter.unnecessarySimpa false
set_option linter.unusedSimpArgs false
open Go.RowKit

/-- Add's result. -/
def addN (n s m t : Int) : Int × Int × Int :=
  if okN n s = true ∧ okN m t = true then fitN (n * p10 (max s.toNat t.toNat - s.toNat) + m * p10 (max s.toNat t.toNat - t.toNat)) ((max s.toNat t.toNat : Nat) : Int) else (0, 0, 2)
theorem errL2 {n s m t : Int} : errL [(n, s), (m, t)] = if okN n s = true ∧ okN m t = true then 0 else 2 := by
  unfold errL
  by_cases h1 : okN n s = true <;> by_cases h2 : okN m t = true <;> simp [h1, h2]
theorem NumsAt.two {w : World} {n s m t : Int} {ty : TypeId} {B : Nat} (hB : B = w.heap.size) : NumsAt (w.alloc (.cells #[.int .i64 n, .int .i64 s, .int .i64 m, .int .i64 t] ty)) (some ⟨B, 0, none⟩) 2 [(n, s), (m, t)] :=
  ⟨Sl.new' (by simp [numCells]) hB (by simp [numCells]), rfl⟩
theorem checkL2_any (n s m t : Int) (A : Option Addr) (c : Nat) (w : World) (hx : NumsAt w A 2 [(n, s), (m, t)]) (h1 : (Lit.int .i64 n).wf = true) (h2 : (Lit.int .i64 m).wf = true) :
    Calls Tryd.prog 41 #[.slice A 2 c] w fun e w' => e = .returned (.int .i64 (if okN n s = true ∧ okN m t = true then 0 else 2)) ∧ Below w.heap.size w w' := by
  have := checkL_any A 2 c [(n, s), (m, t)] w hx (by unfold maxLen; omega) (fun p hp => by
    simp only [List.mem_cons, List.not_mem_nil, or_false] at hp
    rcases hp with rfl | rfl
    · exact h1
    · exact h2)
  rwa [errL2] at this

set_option maxRecDepth 20000 in set_option maxHeartbeats 400000 in
theorem add_bad (n s m t : Int) (w : World) (h1 : (Lit.int .i64 n).wf = true) (h2 : (Lit.int .i64 m).wf = true) (hbad : ¬ (okN n s = true ∧ okN m t = true)) :
    Calls Tryd.prog 24 #[.agg #[.int .i64 n, .int .i64 s], .agg #[.int .i64 m, .int .i64 t]] w (RetF (addN n s m t) w) := by
  have hr : Hid (addN n s m t = (0, 0, 2)) := if_neg hbad
  have C := Lib.hid (fun A c w hx => checkL2_any n s m t A c w hx h1 h2)
  rw [if_neg hbad] at C
  clear hbad h1 h2
  go_enter Tryd.func24, Tryd.ntmps24
  go_wp2_with fail
  refine (C.out _ _ _ ?_).mono ?_
  · exact NumsAt.two (by simp)
  rintro e w1 ⟨rfl, hb⟩
  
  replace k0 := G.cell (a := ⟨w.heap.size + 1 + 1, 0, none⟩) (v := .int .i64 0) (by go_simp) hb
  replace k1 := G.cell (a := ⟨w.heap.size + 1 + 1, 1, none⟩) (v := .int .i64 0) (by go_simp) hb
  replace lt0 := cell_lt k0
  replace lt1 := cell_lt k1
  obtain ⟨hc, hf⟩ := G.old hb
  have z0 : w1.frozen? ⟨w.heap.size + 1 + 1, 0, none⟩ = false := (hf _ _ (by simp)).trans (by go_simp)
  have z1 : w1.frozen? ⟨w.heap.size + 1 + 1, 1, none⟩ = false := (hf _ _ (by simp)).trans (by go_simp)
  go_wp2_with fail
  exact bodyPost_ret (v := .tuple #[.agg #[.int .i64 0, .int .i64 0], .int .i64 2]) (by simp only [results, Tryd.results24]; go_simp) rfl ⟨by rw [hr.out], by repeat (first | with_reducible assumption | with_reducible exact G.refl _ | with_reducible refine G.drew ?_ | with_reducible refine G.drewN ?_ _ | with_reducible refine G.alloc ?_ _ | with_reducible refine Below.setCell ?_ (by first | (simp; done) | (simp; omega)) _ | with_reducible refine G.trans ?_ hb12 | with_reducible refine G.trans ?_ hb11 | with_reducible refine G.trans ?_ hb10 | with_reducible refine G.trans ?_ hb9 | with_reducible refine G.trans ?_ hb8 | with_reducible refine G.trans ?_ hb7 | with_reducible refine G.trans ?_ hb6 | with_reducible refine G.trans ?_ hb5 | with_reducible refine G.trans ?_ hb4 | with_reducible refine G.trans ?_ hb3 | with_reducible refine G.trans ?_ hb2 | with_reducible refine G.trans ?_ hb1 | with_reducible refine G.trans ?_ hb | assumption)⟩
set_option maxRecDepth 20000 in set_option maxHeartbeats 400000 in
theorem add_ok (n s m t : Int) (w : World) (h1 : okN n s = true) (h2 : okN m t = true) :
    Calls Tryd.prog 24 #[.agg #[.int .i64 n, .int .i64 s], .agg #[.int .i64 m, .int .i64 t]] w (RetF (addN n s m t) w) := by
  have hr : Hid (addN n s m t = fitN (n * p10 (max s.toNat t.toNat - s.toNat) + m * p10 (max s.toNat t.toNat - t.toNat)) ((max s.toNat t.toNat : Nat) : Int)) := if_pos ⟨h1, h2⟩
  have C := Lib.hid (fun A c w hx => checkL2_any n s m t A c w hx (wf_ok h1) (wf_ok h2))
  rw [if_pos ⟨h1, h2⟩] at C
  obtain ⟨j, rfl, hj, _⟩ := okN_nat h1
  obtain ⟨i, rfl, hi, _⟩ := okN_nat h2
  simp only [Int.toNat_natCast] at hr
  have T := Lib.hid (fun A c w hx => total_any A 2 c [(n, (j : Int)), (m, (i : Int))] (max j i) w hx (by omega) (by omega) (fun p hp => by
    simp only [List.mem_cons, List.not_mem_nil, or_false] at hp
    rcases hp with rfl | rfl
    · exact ⟨h1, by simp only [Int.toNat_natCast]; omega⟩
    · exact ⟨h2, by simp only [Int.toNat_natCast]; omega⟩))
  have hS : Hid (sumAt [(n, (j : Int)), (m, (i : Int))] (max j i) = n * p10 (max j i - j) + m * p10 (max j i - i)) := by
    unfold Hid sumAt; simp [sumI]
  rw [hS.out, ← hr.out] at T
  generalize addN n j m i = p at *
  clear h1 h2 hr hS
  rcases Nat.lt_or_ge j i with hji | hji
  case inl =>
    rw [Nat.max_eq_right (by omega)] at T
    have hji' : ¬ (i : Int) ≤ (j : Int) := by omega
    go_enter Tryd.func24, Tryd.ntmps24
    go_wp2_with fail
    refine (C.out _ _ _ ?_).mono ?_
    · exact NumsAt.two (by simp)
    rintro e w1 ⟨rfl, hb⟩
    
    replace k0 := G.cell (a := ⟨w.heap.size, 0, none⟩) (v := .int .i64 n) (by go_simp) hb
    replace k1 := G.cell (a := ⟨w.heap.size, 1, none⟩) (v := .int .i64 j) (by go_simp) hb
    replace k2 := G.cell (a := ⟨w.heap.size + 1, 0, none⟩) (v := .int .i64 m) (by go_simp) hb
    replace k3 := G.cell (a := ⟨w.heap.size + 1, 1, none⟩) (v := .int .i64 i) (by go_simp) hb
    replace k4 := G.cell (a := ⟨w.heap.size + 1 + 1, 0, none⟩) (v := .int .i64 0) (by go_simp) hb
    replace k5 := G.cell (a := ⟨w.heap.size + 1 + 1, 1, none⟩) (v := .int .i64 0) (by go_simp) hb
    replace lt0 := cell_lt k0
    replace lt1 := cell_lt k1
    replace lt2 := cell_lt k2
    replace lt3 := cell_lt k3
    replace lt4 := cell_lt k4
    replace lt5 := cell_lt k5
    obtain ⟨hc, hf⟩ := G.old hb
    have z0 : w1.frozen? ⟨w.heap.size + 1 + 1, 0, none⟩ = false := (hf _ _ (by simp)).trans (by go_simp)
    have z1 : w1.frozen? ⟨w.heap.size + 1 + 1, 1, none⟩ = false := (hf _ _ (by simp)).trans (by go_simp)
    have hbw : Below w.heap.size w w1 := by repeat (first | with_reducible assumption | with_reducible exact G.refl _ | with_reducible refine G.drew ?_ | with_reducible refine G.drewN ?_ _ | with_reducible refine G.alloc ?_ _ | with_reducible refine Below.setCell ?_ (by first | (simp; done) | (simp; omega)) _ | with_reducible refine G.trans ?_ hb12 | with_reducible refine G.trans ?_ hb11 | with_reducible refine G.trans ?_ hb10 | with_reducible refine G.trans ?_ hb9 | with_reducible refine G.trans ?_ hb8 | with_reducible refine G.trans ?_ hb7 | with_reducible refine G.trans ?_ hb6 | with_reducible refine G.trans ?_ hb5 | with_reducible refine G.trans ?_ hb4 | with_reducible refine G.trans ?_ hb3 | with_reducible refine G.trans ?_ hb2 | with_reducible refine G.trans ?_ hb1 | with_reducible refine G.trans ?_ hb | assumption)
    clear hc hf hb
    go_wp2_with fail
    refine (T.out _ _ _ ?_).mono ?_
    · exact NumsAt.two (by simp)
    rintro e w2 ⟨rfl, hb⟩
    have hB : Below w1.heap.size w1 w2 := by repeat (first | with_reducible assumption | with_reducible exact G.refl _ | with_reducible refine G.drew ?_ | with_reducible refine G.drewN ?_ _ | with_reducible refine G.alloc ?_ _ | with_reducible refine Below.setCell ?_ (by first | (simp; done) | (simp; omega)) _ | with_reducible refine G.trans ?_ hb12 | with_reducible refine G.trans ?_ hb11 | with_reducible refine G.trans ?_ hb10 | with_reducible refine G.trans ?_ hb9 | with_reducible refine G.trans ?_ hb8 | with_reducible refine G.trans ?_ hb7 | with_reducible refine G.trans ?_ hb6 | with_reducible refine G.trans ?_ hb5 | with_reducible refine G.trans ?_ hb4 | with_reducible refine G.trans ?_ hb3 | with_reducible refine G.trans ?_ hb2 | with_reducible refine G.trans ?_ hb1 | with_reducible refine G.trans ?_ hb | assumption)
    obtain ⟨hc, hf⟩ := G.old hB
    go_wp2_with fail
    exact bodyPost_ret (v := .tuple #[.agg #[.int .i64 p.1, .int .i64 p.2.1], .int .i64 p.2.2]) (by simp only [results, Tryd.results24]; go_simp) rfl ⟨rfl, ((G.trans hbw hB).setCell (by simp; omega) _).setCell (by simp; omega) _⟩
  case inr =>
    rw [Nat.max_eq_left hji] at T
    have hji' : (i : Int) ≤ (j : Int) := by omega
    go_enter Tryd.func24, Tryd.ntmps24
    go_wp2_with fail
    refine (C.out _ _ _ ?_).mono ?_
    · exact NumsAt.two (by simp)
    rintro e w1 ⟨rfl, hb⟩
    
    replace k0 := G.cell (a := ⟨w.heap.size, 0, none⟩) (v := .int .i64 n) (by go_simp) hb
    replace k1 := G.cell (a := ⟨w.heap.size, 1, none⟩) (v := .int .i64 j) (by go_simp) hb
    replace k2 := G.cell (a := ⟨w.heap.size + 1, 0, none⟩) (v := .int .i64 m) (by go_simp) hb
    replace k3 := G.cell (a := ⟨w.heap.size + 1, 1, none⟩) (v := .int .i64 i) (by go_simp) hb
    replace k4 := G.cell (a := ⟨w.heap.size + 1 + 1, 0, none⟩) (v := .int .i64 0) (by go_simp) hb
    replace k5 := G.cell (a := ⟨w.heap.size + 1 + 1, 1, none⟩) (v := .int .i64 0) (by go_simp) hb
    replace lt0 := cell_lt k0
    replace lt1 := cell_lt k1
    replace lt2 := cell_lt k2
    replace lt3 := cell_lt k3
    replace lt4 := cell_lt k4
    replace lt5 := cell_lt k5
    obtain ⟨hc, hf⟩ := G.old hb
    have z0 : w1.frozen? ⟨w.heap.size + 1 + 1, 0, none⟩ = false := (hf _ _ (by simp)).trans (by go_simp)
    have z1 : w1.frozen? ⟨w.heap.size + 1 + 1, 1, none⟩ = false := (hf _ _ (by simp)).trans (by go_simp)
    have hbw : Below w.heap.size w w1 := by repeat (first | with_reducible assumption | with_reducible exact G.refl _ | with_reducible refine G.drew ?_ | with_reducible refine G.drewN ?_ _ | with_reducible refine G.alloc ?_ _ | with_reducible refine Below.setCell ?_ (by first | (simp; done) | (simp; omega)) _ | with_reducible refine G.trans ?_ hb12 | with_reducible refine G.trans ?_ hb11 | with_reducible refine G.trans ?_ hb10 | with_reducible refine G.trans ?_ hb9 | with_reducible refine G.trans ?_ hb8 | with_reducible refine G.trans ?_ hb7 | with_reducible refine G.trans ?_ hb6 | with_reducible refine G.trans ?_ hb5 | with_reducible refine G.trans ?_ hb4 | with_reducible refine G.trans ?_ hb3 | with_reducible refine G.trans ?_ hb2 | with_reducible refine G.trans ?_ hb1 | with_reducible refine G.trans ?_ hb | assumption)
    clear hc hf hb
    go_wp2_with fail
    refine (T.out _ _ _ ?_).mono ?_
    · exact NumsAt.two (by simp)
    rintro e w2 ⟨rfl, hb⟩
    have hB : Below w1.heap.size w1 w2 := by repeat (first | with_reducible assumption | with_reducible exact G.refl _ | with_reducible refine G.drew ?_ | with_reducible refine G.drewN ?_ _ | with_reducible refine G.alloc ?_ _ | with_reducible refine Below.setCell ?_ (by first | (simp; done) | (simp; omega)) _ | with_reducible refine G.trans ?_ hb12 | with_reducible refine G.trans ?_ hb11 | with_reducible refine G.trans ?_ hb10 | with_reducible refine G.trans ?_ hb9 | with_reducible refine G.trans ?_ hb8 | with_reducible refine G.trans ?_ hb7 | with_reducible refine G.trans ?_ hb6 | with_reducible refine G.trans ?_ hb5 | with_reducible refine G.trans ?_ hb4 | with_reducible refine G.trans ?_ hb3 | with_reducible refine G.trans ?_ hb2 | with_reducible refine G.trans ?_ hb1 | with_reducible refine G.trans ?_ hb | assumption)
    obtain ⟨hc, hf⟩ := G.old hB
    go_wp2_with fail
    exact bodyPost_ret (v := .tuple #[.agg #[.int .i64 p.1, .int .i64 p.2.1], .int .i64 p.2.2]) (by simp only [results, Tryd.results24]; go_simp) rfl ⟨rfl, ((G.trans hbw hB).setCell (by simp; omega) _).setCell (by simp; omega) _⟩
theorem add_any (n s m t : Int) (w : World) (h1 : (Lit.int .i64 n).wf = true) (h2 : (Lit.int .i64 m).wf = true) :
    Calls Tryd.prog 24 #[.agg #[.int .i64 n, .int .i64 s], .agg #[.int .i64 m, .int .i64 t]] w (RetF (addN n s m t) w) := by
  by_cases h : okN n s = true ∧ okN m t = true
  · exact add_ok n s m t w h.1 h.2
  · exact add_bad n s m t w h1 h2 h

/-- Sub's result. -/
def subN (n s m t : Int) : Int × Int × Int := if okN n s = true ∧ okN m t = true then addN n s (-m) t else (0, 0, 2)
set_option maxRecDepth 20000 in set_option maxHeartbeats 400000 in
theorem sub_any (n s m t : Int) (w : World) (h1 : (Lit.int .i64 n).wf = true) (h2 : (Lit.int .i64 m).wf = true) :
    Calls Tryd.prog 25 #[.agg #[.int .i64 n, .int .i64 s], .agg #[.int .i64 m, .int .i64 t]] w (RetF (subN n s m t) w) := by
  have C := Lib.hid (fun A c w hx => checkL2_any n s m t A c w hx h1 h2)
  by_cases h : okN n s = true ∧ okN m t = true
  · have hr : Hid (subN n s m t = addN n s (-m) t) := if_pos h
    have hm := okN_iff.1 h.2
    have hneg : IntKind.i64.wrap (-m) = -m := IntWalk.i64_in _ (by omega)
    have T := Lib.hid (fun w => add_any n s (-m) t w h1 (wf_of (by omega) (by omega)))
    rw [if_pos h] at C
    clear h hm h1 h2
    go_enter Tryd.func25, Tryd.ntmps25
    go_wp2_with fail
    refine (C.out _ _ _ ?_).mono ?_
    · exact NumsAt.two (by simp)
    rintro e w1 ⟨rfl, hb⟩
    
    replace k0 := G.cell (a := ⟨w.heap.size, 0, none⟩) (v := .int .i64 n) (by go_simp) hb
    replace k1 := G.cell (a := ⟨w.heap.size, 1, none⟩) (v := .int .i64 s) (by go_simp) hb
    replace k2 := G.cell (a := ⟨w.heap.size + 1, 0, none⟩) (v := .int .i64 m) (by go_simp) hb
    replace k3 := G.cell (a := ⟨w.heap.size + 1, 1, none⟩) (v := .int .i64 t) (by go_simp) hb
    replace k4 := G.cell (a := ⟨w.heap.size + 1 + 1, 0, none⟩) (v := .int .i64 0) (by go_simp) hb
    replace k5 := G.cell (a := ⟨w.heap.size + 1 + 1, 1, none⟩) (v := .int .i64 0) (by go_simp) hb
    replace lt0 := cell_lt k0
    replace lt1 := cell_lt k1
    replace lt2 := cell_lt k2
    replace lt3 := cell_lt k3
    replace lt4 := cell_lt k4
    replace lt5 := cell_lt k5
    obtain ⟨hc, hf⟩ := G.old hb
    have z0 : w1.frozen? ⟨w.heap.size + 1 + 1, 0, none⟩ = false := (hf _ _ (by simp)).trans (by go_simp)
    have z1 : w1.frozen? ⟨w.heap.size + 1 + 1, 1, none⟩ = false := (hf _ _ (by simp)).trans (by go_simp)
    have z2 : w1.frozen? ⟨w.heap.size + 1, 0, none⟩ = false := (hf _ _ (by simp)).trans (by go_simp)
    have hbw : Below w.heap.size w w1 := by repeat (first | with_reducible assumption | with_reducible exact G.refl _ | with_reducible refine G.drew ?_ | with_reducible refine G.drewN ?_ _ | with_reducible refine G.alloc ?_ _ | with_reducible refine Below.setCell ?_ (by first | (simp; done) | (simp; omega)) _ | with_reducible refine G.trans ?_ hb12 | with_reducible refine G.trans ?_ hb11 | with_reducible refine G.trans ?_ hb10 | with_reducible refine G.trans ?_ hb9 | with_reducible refine G.trans ?_ hb8 | with_reducible refine G.trans ?_ hb7 | with_reducible refine G.trans ?_ hb6 | with_reducible refine G.trans ?_ hb5 | with_reducible refine G.trans ?_ hb4 | with_reducible refine G.trans ?_ hb3 | with_reducible refine G.trans ?_ hb2 | with_reducible refine G.trans ?_ hb1 | with_reducible refine G.trans ?_ hb | assumption)
    clear hc hf hb
    go_wp2_with fail
    refine calls_name (fun w3 => Below w.heap.size w w3 ∧ w3.cell? ⟨w.heap.size + 1 + 1, 0, none⟩ = some (.int .i64 0) ∧ w3.cell? ⟨w.heap.size + 1 + 1, 1, none⟩ = some (.int .i64 0) ∧ w3.frozen? ⟨w.heap.size + 1 + 1, 0, none⟩ = false ∧ w3.frozen? ⟨w.heap.size + 1 + 1, 1, none⟩ = false) ⟨by repeat (first | with_reducible assumption | with_reducible exact G.refl _ | with_reducible refine G.drew ?_ | with_reducible refine G.drewN ?_ _ | with_reducible refine G.alloc ?_ _ | with_reducible refine Below.setCell ?_ (by first | (simp; done) | (simp; omega)) _ | with_reducible refine G.trans ?_ hb12 | with_reducible refine G.trans ?_ hb11 | with_reducible refine G.trans ?_ hb10 | with_reducible refine G.trans ?_ hb9 | with_reducible refine G.trans ?_ hb8 | with_reducible refine G.trans ?_ hb7 | with_reducible refine G.trans ?_ hb6 | with_reducible refine G.trans ?_ hb5 | with_reducible refine G.trans ?_ hb4 | with_reducible refine G.trans ?_ hb3 | with_reducible refine G.trans ?_ hb2 | with_reducible refine G.trans ?_ hb1 | with_reducible refine G.trans ?_ hb | assumption), by go_simp, by go_simp, by go_simp, by go_simp⟩ ?_
    rintro w3 ⟨hb3, j0, j1, y0, y1⟩
    have ltj := cell_lt j0
    refine (T.out _).mono ?_
    rintro e w4 ⟨rfl, hb4⟩
    obtain ⟨hc, hf⟩ := G.old hb4
    go_wp2_with fail
    exact bodyPost_ret (v := .tuple #[.agg #[.int .i64 (addN n s (-m) t).1, .int .i64 (addN n s (-m) t).2.1], .int .i64 (addN n s (-m) t).2.2]) (by simp only [results, Tryd.results25]; go_simp) rfl ⟨by rw [hr.out], ((G.trans hb3 hb4).setCell (by simp; omega) _).setCell (by simp; omega) _⟩
  · have hr : Hid (subN n s m t = (0, 0, 2)) := if_neg h
    rw [if_neg h] at C
    clear h h1 h2
    go_enter Tryd.func25, Tryd.ntmps25
    go_wp2_with fail
    refine (C.out _ _ _ ?_).mono ?_
    · exact NumsAt.two (by simp)
    rintro e w1 ⟨rfl, hb⟩
    
    replace k0 := G.cell (a := ⟨w.heap.size + 1 + 1, 0, none⟩) (v := .int .i64 0) (by go_simp) hb
    replace k1 := G.cell (a := ⟨w.heap.size + 1 + 1, 1, none⟩) (v := .int .i64 0) (by go_simp) hb
    replace lt0 := cell_lt k0
    replace lt1 := cell_lt k1
    obtain ⟨hc, hf⟩ := G.old hb
    have z0 : w1.frozen? ⟨w.heap.size + 1 + 1, 0, none⟩ = false := (hf _ _ (by simp)).trans (by go_simp)
    have z1 : w1.frozen? ⟨w.heap.size + 1 + 1, 1, none⟩ = false := (hf _ _ (by simp)).trans (by go_simp)
    go_wp2_with fail
    exact bodyPost_ret (v := .tuple #[.agg #[.int .i64 0, .int .i64 0], .int .i64 2]) (by simp only [results, Tryd.results25]; go_simp) rfl ⟨by rw [hr.out], by repeat (first | with_reducible assumption | with_reducible exact G.refl _ | with_reducible refine G.drew ?_ | with_reducible refine G.drewN ?_ _ | with_reducible refine G.alloc ?_ _ | with_reducible refine Below.setCell ?_ (by first | (simp; done) | (simp; omega)) _ | with_reducible refine G.trans ?_ hb12 | with_reducible refine G.trans ?_ hb11 | with_reducible refine G.trans ?_ hb10 | with_reducible refine G.trans ?_ hb9 | with_reducible refine G.trans ?_ hb8 | with_reducible refine G.trans ?_ hb7 | with_reducible refine G.trans ?_ hb6 | with_reducible refine G.trans ?_ hb5 | with_reducible refine G.trans ?_ hb4 | with_reducible refine G.trans ?_ hb3 | with_reducible refine G.trans ?_ hb2 | with_reducible refine G.trans ?_ hb1 | with_reducible refine G.trans ?_ hb | assumption)⟩
end Go.Proofs.YtoipapcbngknfaaDoor
