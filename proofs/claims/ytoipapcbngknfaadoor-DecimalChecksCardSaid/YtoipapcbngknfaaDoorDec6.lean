/- What decimal.Normal, Negate and Floor compute. -/
import Derived.Test.YtoipapcbngknfaaDoorDCmp
import Derived.Test.YtoipapcbngknfaaDoorRef2
import Derived.Deep.LoopGhost
namespace Go.Proofs.YtoipapcbngknfaaDoor
set_option linter.unusedVariables false
set_option linter.unnecessarySimpa false
set_option linter.unusedSimpArgs false
open Go.RowKit

theorem Box2.set0 {w : World} {B : Nat} {u v x : Value} (h : Box2 w B u v) : Box2 (w.setCell ⟨B, 0, none⟩ x) B x v := by
  obtain ⟨h1, h2, h3, h4⟩ := h
  exact ⟨by go_simp, by go_simp, by go_simp, by go_simp⟩
/-- The equal number with the least scale. -/
def IsNormal (n s n' s' : Int) : Prop := okN n' s' = true ∧ valN n' s' = valN n s ∧ (0 < s' → n'.tmod 10 ≠ 0)
theorem norm_step {n s : Int} (h : okN n s = true) (hs : 0 < s) (hz : n.tmod 10 = 0) : okN (n.tdiv 10) (s - 1) = true ∧ valN (n.tdiv 10) (s - 1) = valN n s := by
  have h1 := okN_iff.1 h
  have h2 := tdiv_bd (n := n) (P := 10) (M := 999999999999999) (by omega) (by omega) (by omega)
  have h3 := tparts n 10
  refine ⟨okN_iff.2 ⟨by omega, by omega, by omega, by omega⟩, ?_⟩
  unfold valN
  rw [show 12 - (s - 1).toNat = 12 - s.toNat + 1 by omega, p10_succ, ← Int.mul_assoc]
  congr 1
  omega
/-- The call gives the normal form. -/
def RetNm (n s : Int) (w : World) (e : Ending) (w' : World) : Prop := ∃ n' s', e = .returned (.tuple #[.agg #[.int .i64 n', .int .i64 s'], .int .i64 0]) ∧ IsNormal n s n' s' ∧ Below w.heap.size w w'
set_option maxRecDepth 20000 in set_option maxHeartbeats 400000 in
theorem normal_bad (n s : Int) (w : World) (h1 : (Lit.int .i64 n).wf = true) (h : ¬ okN n s = true) :
    Calls Tryd.prog 31 #[.agg #[.int .i64 n, .int .i64 s]] w (RetN 0 0 2 w) := by
  have C := fun w => check1_any n s w h1
  rw [errN_bad h] at C
  replace C := Lib.hid C
  clear h h1
  go_enter Tryd.func31, Tryd.ntmps31
  go_wp2_with fail
  refine (C.out _).mono ?_
  rintro e w1 ⟨rfl, hb⟩
  
  replace k0 := G.cell (a := ⟨w.heap.size + 1, 0, none⟩) (v := .int .i64 0) (by go_simp) hb
  replace k1 := G.cell (a := ⟨w.heap.size + 1, 1, none⟩) (v := .int .i64 0) (by go_simp) hb
  replace lt0 := cell_lt k0
  replace lt1 := cell_lt k1
  obtain ⟨hc, hf⟩ := G.old hb
  have z0 : w1.frozen? ⟨w.heap.size + 1, 0, none⟩ = false := (hf _ _ (by simp)).trans (by go_simp)
  have z1 : w1.frozen? ⟨w.heap.size + 1, 1, none⟩ = false := (hf _ _ (by simp)).trans (by go_simp)
  go_wp2_with fail
  exact bodyPost_ret (v := .tuple #[.agg #[.int .i64 0, .int .i64 0], .int .i64 2]) (by simp only [results, Tryd.results31]; go_simp) rfl ⟨rfl, by repeat (first | with_reducible assumption | with_reducible exact G.refl _ | with_reducible refine G.drew ?_ | with_reducible refine G.drewN ?_ _ | with_reducible refine G.alloc ?_ _ | with_reducible refine Below.setCell ?_ (by first | (simp; done) | (simp; omega)) _ | with_reducible refine G.trans ?_ hb12 | with_reducible refine G.trans ?_ hb11 | with_reducible refine G.trans ?_ hb10 | with_reducible refine G.trans ?_ hb9 | with_reducible refine G.trans ?_ hb8 | with_reducible refine G.trans ?_ hb7 | with_reducible refine G.trans ?_ hb6 | with_reducible refine G.trans ?_ hb5 | with_reducible refine G.trans ?_ hb4 | with_reducible refine G.trans ?_ hb3 | with_reducible refine G.trans ?_ hb2 | with_reducible refine G.trans ?_ hb1 | with_reducible refine G.trans ?_ hb | assumption)⟩
set_option maxRecDepth 20000 in set_option maxHeartbeats 1000000 in
theorem normal_ok (n s : Int) (w : World) (h : okN n s = true) :
    Calls Tryd.prog 31 #[.agg #[.int .i64 n, .int .i64 s]] w (RetNm n s w) := by
  have C := fun w => check1_any n s w (wf_ok h)
  rw [errN_ok h] at C
  replace C := Lib.hid C
  have hok := Lib.hid h
  clear h
  go_enter Tryd.func31, Tryd.ntmps31
  go_wp2_with fail
  refine (C.out _).mono ?_
  rintro e w1 ⟨rfl, hb⟩
  have hb0 : Below w.heap.size w w1 := by repeat (first | with_reducible assumption | with_reducible exact G.refl _ | with_reducible refine G.drew ?_ | with_reducible refine G.drewN ?_ _ | with_reducible refine G.alloc ?_ _ | with_reducible refine Below.setCell ?_ (by first | (simp; done) | (simp; omega)) _ | with_reducible refine G.trans ?_ hb12 | with_reducible refine G.trans ?_ hb11 | with_reducible refine G.trans ?_ hb10 | with_reducible refine G.trans ?_ hb9 | with_reducible refine G.trans ?_ hb8 | with_reducible refine G.trans ?_ hb7 | with_reducible refine G.trans ?_ hb6 | with_reducible refine G.trans ?_ hb5 | with_reducible refine G.trans ?_ hb4 | with_reducible refine G.trans ?_ hb3 | with_reducible refine G.trans ?_ hb2 | with_reducible refine G.trans ?_ hb1 | with_reducible refine G.trans ?_ hb | assumption)
  have hA : Box2 w1 w.heap.size (.int .i64 n) (.int .i64 s) := Box2.grow (by repeat (first | with_reducible assumption | (exact Box2.new (by simp; done)) | with_reducible refine Box2.alloc ?_ _ | with_reducible refine Box2.grow ?_ hb12 | with_reducible refine Box2.grow ?_ hb5 | with_reducible refine Box2.grow ?_ hb4 | with_reducible refine Box2.grow ?_ hb3 | with_reducible refine Box2.grow ?_ hb2 | with_reducible refine Box2.grow ?_ hb1 | with_reducible refine Box2.grow ?_ hb | assumption)) hb
  have hR : Box2 w1 (w.heap.size + 1) (.int .i64 0) (.int .i64 0) := Box2.grow (by repeat (first | with_reducible assumption | (exact Box2.new (by simp; done)) | with_reducible refine Box2.alloc ?_ _ | with_reducible refine Box2.grow ?_ hb12 | with_reducible refine Box2.grow ?_ hb5 | with_reducible refine Box2.grow ?_ hb4 | with_reducible refine Box2.grow ?_ hb3 | with_reducible refine Box2.grow ?_ hb2 | with_reducible refine Box2.grow ?_ hb1 | with_reducible refine Box2.grow ?_ hb | assumption)) hb
  obtain ⟨a1, a2, a3, a4⟩ := id hA
  have lta := hA.lt
  clear hb
  go_wp2_with fail
  clear a1 a2 a3 a4
  go_loopg [] s.toNat (fun g wr => ∃ n' s' : Int, g = s'.toNat ∧ Box2 wr w.heap.size (.int .i64 n') (.int .i64 s') ∧ Box2 wr (w.heap.size + 1) (.int .i64 0) (.int .i64 0) ∧ Below w.heap.size w wr ∧ Hid (okN n' s' = true ∧ valN n' s' = valN n s))
  case atStart => exact ⟨n, s, rfl, hA, hR, hb0, hok.out, rfl⟩
  case round =>
    obtain ⟨n', s', rfl, hA', hR', hbr, hv⟩ := hrel
    have hb' := okN_iff.1 hv.out.1
    obtain ⟨v1, v2, v3, v4⟩ := hb'
    obtain ⟨a1, a2, a3, a4⟩ := id hA'
    obtain ⟨r1, r2, r3, r4⟩ := id hR'
    have lta := hA'.lt
    have ltr := hR'.lt
    by_cases hs : 0 < s'
    · by_cases hz : n'.tmod 10 = 0
      · have hst := Lib.hid (norm_step hv.out.1 hs hz)
        have hq := tdiv_bd (n := n') (P := 10) (M := 999999999999999) (by omega) (by omega) (by omega)
        have hzb : (n'.tmod 10 == 0) = true := by simp [hz]
        clear hz
        go_wp2_with fail
        go_roundg (s' - 1).toNat
        case rel => exact ⟨n'.tdiv 10, s' - 1, rfl, (hA'.set0).set1, (hR'.other (by omega)).other (by omega), (hbr.setCell (by simp) _).setCell (by simp) _, hst.out.1, hst.out.2.trans hv.out.2⟩
        case measure => omega
      · have hzb : (n'.tmod 10 == 0) = false := by simp [hz]
        have hnm : Hid (IsNormal n s n' s') := ⟨hv.out.1, hv.out.2, fun _ => hz⟩
        clear hz
        go_wp2_with fail
        exact bodyPost_ret (v := .tuple #[.agg #[.int .i64 n', .int .i64 s'], .int .i64 0]) (by simp only [results, Tryd.results31]; go_simp) rfl ⟨n', s', rfl, hnm.out, (hbr.setCell (by simp) _).setCell (by simp) _⟩
    · have hnm : Hid (IsNormal n s n' s') := ⟨hv.out.1, hv.out.2, fun h => absurd h hs⟩
      go_wp2_with fail
      exact bodyPost_ret (v := .tuple #[.agg #[.int .i64 n', .int .i64 s'], .int .i64 0]) (by simp only [results, Tryd.results31]; go_simp) rfl ⟨n', s', rfl, hnm.out, (hbr.setCell (by simp) _).setCell (by simp) _⟩

def negN (n s : Int) : Int × Int × Int := if okN n s = true then (-n, s, 0) else (0, 0, 2)
set_option maxRecDepth 20000 in set_option maxHeartbeats 400000 in
theorem negate_any (n s : Int) (w : World) (h1 : (Lit.int .i64 n).wf = true) :
    Calls Tryd.prog 32 #[.agg #[.int .i64 n, .int .i64 s]] w (RetF (negN n s) w) := by
  have C := fun w => check1_any n s w h1
  by_cases h : okN n s = true
  · rw [errN_ok h] at C
    replace C := Lib.hid C
    have hr : Hid (negN n s = (-n, s, 0)) := if_pos h
    have hb' := okN_iff.1 h
    have hneg : IntKind.i64.wrap (-n) = -n := IntWalk.i64_in _ (by omega)
    clear h h1 hb'
    go_enter Tryd.func32, Tryd.ntmps32
    go_wp2_with fail
    refine (C.out _).mono ?_
    rintro e w1 ⟨rfl, hb⟩
    
    replace k0 := G.cell (a := ⟨w.heap.size, 0, none⟩) (v := .int .i64 n) (by go_simp) hb
    replace k1 := G.cell (a := ⟨w.heap.size, 1, none⟩) (v := .int .i64 s) (by go_simp) hb
    replace k2 := G.cell (a := ⟨w.heap.size + 1, 0, none⟩) (v := .int .i64 0) (by go_simp) hb
    replace k3 := G.cell (a := ⟨w.heap.size + 1, 1, none⟩) (v := .int .i64 0) (by go_simp) hb
    replace lt0 := cell_lt k0
    replace lt1 := cell_lt k1
    replace lt2 := cell_lt k2
    replace lt3 := cell_lt k3
    obtain ⟨hc, hf⟩ := G.old hb
    have z0 : w1.frozen? ⟨w.heap.size + 1, 0, none⟩ = false := (hf _ _ (by simp)).trans (by go_simp)
    have z1 : w1.frozen? ⟨w.heap.size + 1, 1, none⟩ = false := (hf _ _ (by simp)).trans (by go_simp)
    go_wp2_with fail
    exact bodyPost_ret (v := .tuple #[.agg #[.int .i64 (-n), .int .i64 s], .int .i64 0]) (by simp only [results, Tryd.results32]; go_simp) rfl ⟨by rw [hr.out], by repeat (first | with_reducible assumption | with_reducible exact G.refl _ | with_reducible refine G.drew ?_ | with_reducible refine G.drewN ?_ _ | with_reducible refine G.alloc ?_ _ | with_reducible refine Below.setCell ?_ (by first | (simp; done) | (simp; omega)) _ | with_reducible refine G.trans ?_ hb12 | with_reducible refine G.trans ?_ hb11 | with_reducible refine G.trans ?_ hb10 | with_reducible refine G.trans ?_ hb9 | with_reducible refine G.trans ?_ hb8 | with_reducible refine G.trans ?_ hb7 | with_reducible refine G.trans ?_ hb6 | with_reducible refine G.trans ?_ hb5 | with_reducible refine G.trans ?_ hb4 | with_reducible refine G.trans ?_ hb3 | with_reducible refine G.trans ?_ hb2 | with_reducible refine G.trans ?_ hb1 | with_reducible refine G.trans ?_ hb | assumption)⟩
  · rw [errN_bad h] at C
    replace C := Lib.hid C
    have hr : Hid (negN n s = (0, 0, 2)) := if_neg h
    clear h h1
    go_enter Tryd.func32, Tryd.ntmps32
    go_wp2_with fail
    refine (C.out _).mono ?_
    rintro e w1 ⟨rfl, hb⟩
    
    replace k0 := G.cell (a := ⟨w.heap.size + 1, 0, none⟩) (v := .int .i64 0) (by go_simp) hb
    replace k1 := G.cell (a := ⟨w.heap.size + 1, 1, none⟩) (v := .int .i64 0) (by go_simp) hb
    replace lt0 := cell_lt k0
    replace lt1 := cell_lt k1
    obtain ⟨hc, hf⟩ := G.old hb
    have z0 : w1.frozen? ⟨w.heap.size + 1, 0, none⟩ = false := (hf _ _ (by simp)).trans (by go_simp)
    have z1 : w1.frozen? ⟨w.heap.size + 1, 1, none⟩ = false := (hf _ _ (by simp)).trans (by go_simp)
    go_wp2_with fail
    exact bodyPost_ret (v := .tuple #[.agg #[.int .i64 0, .int .i64 0], .int .i64 2]) (by simp only [results, Tryd.results32]; go_simp) rfl ⟨by rw [hr.out], by repeat (first | with_reducible assumption | with_reducible exact G.refl _ | with_reducible refine G.drew ?_ | with_reducible refine G.drewN ?_ _ | with_reducible refine G.alloc ?_ _ | with_reducible refine Below.setCell ?_ (by first | (simp; done) | (simp; omega)) _ | with_reducible refine G.trans ?_ hb12 | with_reducible refine G.trans ?_ hb11 | with_reducible refine G.trans ?_ hb10 | with_reducible refine G.trans ?_ hb9 | with_reducible refine G.trans ?_ hb8 | with_reducible refine G.trans ?_ hb7 | with_reducible refine G.trans ?_ hb6 | with_reducible refine G.trans ?_ hb5 | with_reducible refine G.trans ?_ hb4 | with_reducible refine G.trans ?_ hb3 | with_reducible refine G.trans ?_ hb2 | with_reducible refine G.trans ?_ hb1 | with_reducible refine G.trans ?_ hb | assumption)⟩

def floorN (n s : Int) : Int := if n.tmod (p10 s.toNat) * p10 (12 - s.toNat) < 0 then n.tdiv (p10 s.toNat) - 1 else n.tdiv (p10 s.toNat)
theorem floor_law {n s : Int} (h : okN n s = true) : floorN n s * 1000000000000 ≤ valN n s ∧ valN n s < (floorN n s + 1) * 1000000000000 ∧ -999999999999999 ≤ floorN n s ∧ floorN n s ≤ 999999999999999 := by
  have h1 := parts_bd h
  have h2 := valN_parts h
  have h3 := okN_iff.1 h
  have h4 := tdiv_bd (n := n) (M := 999999999999999) (p10_pos s.toNat) (by omega) (by omega)
  have h5 : valN n s ≤ 999999999999999 * 1000000000000 ∧ -(999999999999999 * 1000000000000) ≤ valN n s := by
    unfold valN
    have hp := p10_pos (12 - s.toNat)
    have hp2 := p10_mono (show 12 - s.toNat ≤ 12 by omega)
    rw [show p10 12 = 1000000000000 by decide] at hp2
    constructor
    · rcases Int.le_total 0 n with h0 | h0
      · exact Int.mul_le_mul (by omega) hp2 (by omega) (by omega)
      · have := Int.mul_nonneg (show 0 ≤ -n by omega) (Int.le_of_lt hp)
        rw [Int.neg_mul] at this
        omega
    · rcases Int.le_total 0 n with h0 | h0
      · have := Int.mul_nonneg h0 (Int.le_of_lt hp)
        omega
      · have := Int.mul_le_mul (show -n ≤ 999999999999999 by omega) hp2 (by omega) (by omega)
        rw [Int.neg_mul] at this
        omega
  unfold floorN
  generalize n.tmod (p10 s.toNat) * p10 (12 - s.toNat) = R at *
  generalize n.tdiv (p10 s.toNat) = W at *
  split
  · refine ⟨by omega, by omega, by omega, by omega⟩
  · refine ⟨by omega, by omega, by omega, by omega⟩
def floorR (n s : Int) : Int × Int := if okN n s = true then (floorN n s, 0) else (0, 2)
set_option maxRecDepth 20000 in set_option maxHeartbeats 1000000 in
theorem floor_any (n s : Int) (w : World) (h1 : (Lit.int .i64 n).wf = true) :
    Calls Tryd.prog 33 #[.agg #[.int .i64 n, .int .i64 s]] w fun e w' => e = .returned (.tuple #[.int .i64 (floorR n s).1, .int .i64 (floorR n s).2]) ∧ Below w.heap.size w w' := by
  have C := fun w => check1_any n s w h1
  by_cases h : okN n s = true
  · rw [errN_ok h] at C
    replace C := Lib.hid C
    have hr : Hid (floorR n s = (floorN n s, 0)) := if_pos h
    have hfl := floor_law h
    obtain ⟨j, rfl, hj, hn0, hn1⟩ := okN_nat h
    have P := fun w => parts_any n j w hj hn0 hn1
    unfold floorN at hr hfl
    simp only [Int.toNat_natCast] at hr hfl
    generalize n.tmod (p10 j) * p10 (12 - j) = R at *
    generalize n.tdiv (p10 j) = W at *
    replace P := Lib.hid P
    by_cases hR : R < 0
    · rw [if_pos hR] at hr hfl
      have hb := hfl.2.2
      obtain ⟨hb1, hb2⟩ := hb
      clear hfl hn0 hn1 h h1
      go_enter Tryd.func33, Tryd.ntmps33
      go_wp2_with fail
      refine (C.out _).mono ?_
      rintro e w1 ⟨rfl, hb⟩
      
      replace k0 := G.cell (a := ⟨w.heap.size, 0, none⟩) (v := .int .i64 n) (by go_simp) hb
      replace k1 := G.cell (a := ⟨w.heap.size, 1, none⟩) (v := .int .i64 j) (by go_simp) hb
      replace lt0 := cell_lt k0
      replace lt1 := cell_lt k1
      go_wp2_with fail
      refine (P.out _).mono ?_
      rintro e w2 ⟨rfl, hb2⟩
      go_wp2
      go_ret2
      exact ⟨by rw [hr.out]; rfl, by repeat (first | with_reducible assumption | with_reducible exact G.refl _ | with_reducible refine G.drew ?_ | with_reducible refine G.drewN ?_ _ | with_reducible refine G.alloc ?_ _ | with_reducible refine Below.setCell ?_ (by first | (simp; done) | (simp; omega)) _ | with_reducible refine G.trans ?_ hb12 | with_reducible refine G.trans ?_ hb11 | with_reducible refine G.trans ?_ hb10 | with_reducible refine G.trans ?_ hb9 | with_reducible refine G.trans ?_ hb8 | with_reducible refine G.trans ?_ hb7 | with_reducible refine G.trans ?_ hb6 | with_reducible refine G.trans ?_ hb5 | with_reducible refine G.trans ?_ hb4 | with_reducible refine G.trans ?_ hb3 | with_reducible refine G.trans ?_ hb2 | with_reducible refine G.trans ?_ hb1 | with_reducible refine G.trans ?_ hb | assumption)⟩
    · rw [if_neg hR] at hr hfl
      have hb := hfl.2.2
      obtain ⟨hb1, hb2⟩ := hb
      clear hfl hn0 hn1 h h1
      go_enter Tryd.func33, Tryd.ntmps33
      go_wp2_with fail
      refine (C.out _).mono ?_
      rintro e w1 ⟨rfl, hb⟩
      
      replace k0 := G.cell (a := ⟨w.heap.size, 0, none⟩) (v := .int .i64 n) (by go_simp) hb
      replace k1 := G.cell (a := ⟨w.heap.size, 1, none⟩) (v := .int .i64 j) (by go_simp) hb
      replace lt0 := cell_lt k0
      replace lt1 := cell_lt k1
      go_wp2_with fail
      refine (P.out _).mono ?_
      rintro e w2 ⟨rfl, hb2⟩
      go_wp2
      go_ret2
      exact ⟨by rw [hr.out]; rfl, by repeat (first | with_reducible assumption | with_reducible exact G.refl _ | with_reducible refine G.drew ?_ | with_reducible refine G.drewN ?_ _ | with_reducible refine G.alloc ?_ _ | with_reducible refine Below.setCell ?_ (by first | (simp; done) | (simp; omega)) _ | with_reducible refine G.trans ?_ hb12 | with_reducible refine G.trans ?_ hb11 | with_reducible refine G.trans ?_ hb10 | with_reducible refine G.trans ?_ hb9 | with_reducible refine G.trans ?_ hb8 | with_reducible refine G.trans ?_ hb7 | with_reducible refine G.trans ?_ hb6 | with_reducible refine G.trans ?_ hb5 | with_reducible refine G.trans ?_ hb4 | with_reducible refine G.trans ?_ hb3 | with_reducible refine G.trans ?_ hb2 | with_reducible refine G.trans ?_ hb1 | with_reducible refine G.trans ?_ hb | assumption)⟩
  · rw [errN_bad h] at C
    replace C := Lib.hid C
    have hr : Hid (floorR n s = (0, 2)) := if_neg h
    clear h h1
    go_enter Tryd.func33, Tryd.ntmps33
    go_wp2_with fail
    refine (C.out _).mono ?_
    rintro e w1 ⟨rfl, hb⟩
    go_wp2
    go_ret2
    exact ⟨by rw [hr.out]; rfl, by repeat (first | with_reducible assumption | with_reducible exact G.refl _ | with_reducible refine G.drew ?_ | with_reducible refine G.drewN ?_ _ | with_reducible refine G.alloc ?_ _ | with_reducible refine Below.setCell ?_ (by first | (simp; done) | (simp; omega)) _ | with_reducible refine G.trans ?_ hb12 | with_reducible refine G.trans ?_ hb11 | with_reducible refine G.trans ?_ hb10 | with_reducible refine G.trans ?_ hb9 | with_reducible refine G.trans ?_ hb8 | with_reducible refine G.trans ?_ hb7 | with_reducible refine G.trans ?_ hb6 | with_reducible refine G.trans ?_ hb5 | with_reducible refine G.trans ?_ hb4 | with_reducible refine G.trans ?_ hb3 | with_reducible refine G.trans ?_ hb2 | with_reducible refine G.trans ?_ hb1 | with_reducible refine G.trans ?_ hb | assumption)⟩
end Go.Proofs.YtoipapcbngknfaaDoor
