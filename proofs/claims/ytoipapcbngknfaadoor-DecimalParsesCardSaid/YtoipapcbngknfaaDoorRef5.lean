/- What the reference's Minus, Fit and At compute. -/
import Derived.Test.YtoipapcbngknfaaDoorRef2
namespace Go.Proofs.YtoipapcbngknfaaDoor
set_option linter.unusedVariables false
set_option linter.unnecessarySimpa false
set_option linter.unusedSimpArgs false
open Go.RowKit

theorem valD_last {l : List Int} {k : Nat} {x : Int} (h : l[k]? = some x) : valD (l.drop k) = x + 10 * valD (l.drop (k + 1)) := by
  rw [valD_drop l k]
  unfold dg
  rw [List.getD_eq_getElem?_getD, h]
  rfl
theorem digs_15 {z : Int} : (digs z.natAbs).length ≤ 15 ↔ -999999999999999 ≤ z ∧ z ≤ 999999999999999 := by
  constructor
  · intro h
    rcases Nat.lt_or_ge z.natAbs (10 ^ 15) with h1 | h1
    · omega
    · have := len_digs_gt h1
      omega
  · intro h
    exact len_digs_le (by omega)
theorem sgn_natAbs (z : Int) : sgn z * (z.natAbs : Int) = z := by
  unfold sgn
  split
  · omega
  · split
    · omega
    · omega
/-- What the reference's Fit gives. -/
def fitW (z : Int) (sc : Nat) : Int × Int × Int := if sc ≤ 12 then fitN z sc else (0, 0, 14)
set_option maxRecDepth 20000 in set_option maxHeartbeats 1000000 in
theorem fitW_any (z : Int) (A : Option Addr) (n c sc : Nat) (w : World) (hx : Wd w A n c z) (hsc : sc ≤ 1000) :
    Calls Tryd.prog 44 #[.agg #[.int .i64 (sgn z), .slice A n c], .int .i64 sc] w (RetF (fitW z sc) w) := by
  obtain ⟨hs, hnc, hcm⟩ := hx
  have hl := Lib.hid hs.len
  have h15 := digs_15 (z := z)
  rw [hl.out] at h15
  unfold maxLen at hcm
  by_cases h1 : 12 < sc
  · have hr : Hid (fitW z sc = (0, 0, 14)) := if_neg (by omega)
    clear h15
    go_enter Tryd.func44, Tryd.ntmps44
    go_wp2
    exact bodyPost_ret (v := .tuple #[.agg #[.int .i64 0, .int .i64 0], .int .i64 14]) (by simp only [results, Tryd.results44]; go_simp) rfl ⟨by rw [hr.out], by repeat (first | with_reducible assumption | with_reducible exact G.refl _ | with_reducible refine G.drew ?_ | with_reducible refine G.drewN ?_ _ | with_reducible refine G.alloc ?_ _ | with_reducible refine Below.setCell ?_ (by first | (simp; done) | (simp; omega)) _ | with_reducible refine G.trans ?_ hb12 | with_reducible refine G.trans ?_ hb11 | with_reducible refine G.trans ?_ hb10 | with_reducible refine G.trans ?_ hb9 | with_reducible refine G.trans ?_ hb8 | with_reducible refine G.trans ?_ hb7 | with_reducible refine G.trans ?_ hb6 | with_reducible refine G.trans ?_ hb5 | with_reducible refine G.trans ?_ hb4 | with_reducible refine G.trans ?_ hb3 | with_reducible refine G.trans ?_ hb2 | with_reducible refine G.trans ?_ hb1 | with_reducible refine G.trans ?_ hb | assumption)⟩
  by_cases h2 : 15 < n
  · have hr : Hid (fitW z sc = (0, 0, 14)) := by
      unfold Hid fitW fitN
      rw [if_pos (by omega), if_neg (fun h => by have := h15.2 h; omega)]
    clear h15
    go_enter Tryd.func44, Tryd.ntmps44
    go_wp2
    exact bodyPost_ret (v := .tuple #[.agg #[.int .i64 0, .int .i64 0], .int .i64 14]) (by simp only [results, Tryd.results44]; go_simp) rfl ⟨by rw [hr.out], by repeat (first | with_reducible assumption | with_reducible exact G.refl _ | with_reducible refine G.drew ?_ | with_reducible refine G.drewN ?_ _ | with_reducible refine G.alloc ?_ _ | with_reducible refine Below.setCell ?_ (by first | (simp; done) | (simp; omega)) _ | with_reducible refine G.trans ?_ hb12 | with_reducible refine G.trans ?_ hb11 | with_reducible refine G.trans ?_ hb10 | with_reducible refine G.trans ?_ hb9 | with_reducible refine G.trans ?_ hb8 | with_reducible refine G.trans ?_ hb7 | with_reducible refine G.trans ?_ hb6 | with_reducible refine G.trans ?_ hb5 | with_reducible refine G.trans ?_ hb4 | with_reducible refine G.trans ?_ hb3 | with_reducible refine G.trans ?_ hb2 | with_reducible refine G.trans ?_ hb1 | with_reducible refine G.trans ?_ hb | assumption)⟩
  have hz := h15.1 (by omega)
  have hr : Hid (fitW z sc = (z, (sc : Int), 0)) := by
    unfold Hid fitW fitN
    rw [if_pos (by omega), if_pos hz]
  have hdig := Lib.hid (dig_digs z.natAbs)
  have hval := Lib.hid (valD_digs z.natAbs)
  have hsg := Lib.hid (sgn_natAbs z)
  generalize hD : digs z.natAbs = D at *
  generalize hsn : sgn z = sg at *
  have hD' := Lib.hid hD
  clear h15 hD hsn
  go_enter Tryd.func44, Tryd.ntmps44
  go_wp2_with fail
  go_loop [6, 7] (fun s i => ∃ (v : Int) (a : Int), -1 ≤ v ∧ v < n ∧ i = .int .i64 v ∧ s = .int .i64 a ∧ Hid (a = valD (D.drop (v + 1).toNat))) (fun _ i => (intOf i + 1).toNat)
  case atStart => exact ⟨(n : Int) - 1, 0, by omega, by omega, by go_num, rfl, by unfold Hid; rw [List.drop_of_length_le (by have := hl.out; omega)]; rfl⟩
  case round =>
    obtain ⟨v, a, hv0, hvn, rfl, rfl, ha⟩ := hrel
    by_cases hv1 : 0 ≤ v
    · obtain ⟨k, rfl⟩ : ∃ k : Nat, v = k := ⟨v.toNat, by omega⟩
      rw [show ((k : Int) + 1).toNat = k + 1 by omega] at ha
      have hkn : k < n := by omega
      obtain ⟨b, off, x, rfl, hbx, hxk, hcx⟩ := hs.at_ hkn
      have hst : Hid (10 * a + x = valD (D.drop k)) := by unfold Hid; rw [valD_last hxk, ha.out]; omega
      have hb1 : b < w.heap.size + 1 := by omega
      have hbd : 0 ≤ valD (D.drop k) ∧ valD (D.drop k) ≤ 999999999999999 := by
        have h1 := valD_nonneg (hdig.out.drop k)
        have h2 := valD_split D k
        have h3 := valD_nonneg (hdig.out.take k)
        have h4 := p10_pos k
        have h5 : 1 * valD (D.drop k) ≤ p10 k * valD (D.drop k) := Int.mul_le_mul_of_nonneg_right (by omega) h1
        rw [hval.out] at h2
        omega
      have ha0 : 0 ≤ a := by rw [ha.out]; exact valD_nonneg (hdig.out.drop _)
      have hx0 := hdig.out x (List.mem_of_getElem? hxk)
      have hb2 : 10 * a + x ≤ 999999999999999 := by have := hst.out; omega
      obtain ⟨hx1, hx2⟩ := hx0
      clear hxk hbd ha
      go_wp2
      go_round
      case rel => exact ⟨(k : Int) - 1, 10 * a + x, by omega, by omega, by go_num, by go_num, by rw [show ((k : Int) - 1 + 1).toNat = k by omega]; exact hst⟩
      case measure => first | (simp [intOf]; done) | (simp [intOf]; omega)
    · have h0 : v = -1 := by omega
      subst h0
      have hav : a = z.natAbs := by
        rw [ha.out, ← hval.out]
        simp
      have hm : IntKind.i64.wrap (sg * a) = z := by rw [hav, hsg.out]; exact IntWalk.i64_in _ (by omega)
      clear ha hav hz
      go_wp2_with fail
      exact bodyPost_ret (v := .tuple #[.agg #[.int .i64 z, .int .i64 sc], .int .i64 0]) (by simp only [results, Tryd.results44]; go_simp) rfl ⟨by rw [hr.out], by repeat (first | with_reducible assumption | with_reducible exact G.refl _ | with_reducible refine G.drew ?_ | with_reducible refine G.drewN ?_ _ | with_reducible refine G.alloc ?_ _ | with_reducible refine Below.setCell ?_ (by first | (simp; done) | (simp; omega)) _ | with_reducible refine G.trans ?_ hb12 | with_reducible refine G.trans ?_ hb11 | with_reducible refine G.trans ?_ hb10 | with_reducible refine G.trans ?_ hb9 | with_reducible refine G.trans ?_ hb8 | with_reducible refine G.trans ?_ hb7 | with_reducible refine G.trans ?_ hb6 | with_reducible refine G.trans ?_ hb5 | with_reducible refine G.trans ?_ hb4 | with_reducible refine G.trans ?_ hb3 | with_reducible refine G.trans ?_ hb2 | with_reducible refine G.trans ?_ hb1 | with_reducible refine G.trans ?_ hb | assumption)⟩

set_option maxRecDepth 20000 in set_option maxHeartbeats 400000 in
theorem at_any (n : Int) (j sc : Nat) (w : World) (h0 : -999999999999999 ≤ n) (h1 : n ≤ 999999999999999) (hj : j ≤ sc) (hsc : sc ≤ 12) :
    Calls Tryd.prog 20 #[.agg #[.int .i64 n, .int .i64 j], .int .i64 sc] w (RetW (n * p10 (sc - j)) w) := by
  have hO := Lib.hid (fun w => of_any n (sc - j) w (by omega) (by omega) (by omega))
  have hsub : IntKind.i64.wrap ((sc : Int) - (j : Int)) = ((sc - j : Nat) : Int) := by rw [IntWalk.i64_in _ (by omega)]; omega
  have hsub2 : (sc : Int) - (j : Int) = ((sc - j : Nat) : Int) := by omega
  generalize n * p10 (sc - j) = z at *
  generalize sc - j = q at *
  go_enter Tryd.func20, Tryd.ntmps20
  go_wp2_with fail
  refine (hO.out _).mono ?_
  rintro e w1 ⟨A, m, c, rfl, ⟨hs, hmc, hcm⟩, ha, hb⟩
  
  replace k0 := G.cell (a := ⟨w.heap.size + 1, 0, none⟩) (v := .int .i64 0) (by go_simp) hb
  replace k1 := G.cell (a := ⟨w.heap.size + 1, 1, none⟩) (v := .slice none 0 0) (by go_simp) hb
  replace lt0 := cell_lt k0
  replace lt1 := cell_lt k1
  obtain ⟨hc, hf⟩ := G.old hb
  have z0 : w1.frozen? ⟨w.heap.size + 1, 0, none⟩ = false := (hf _ _ (by simp)).trans (by go_simp)
  have z1 : w1.frozen? ⟨w.heap.size + 1, 1, none⟩ = false := (hf _ _ (by simp)).trans (by go_simp)
  have hbw : Below w.heap.size w w1 := by repeat (first | with_reducible assumption | with_reducible exact G.refl _ | with_reducible refine G.drew ?_ | with_reducible refine G.drewN ?_ _ | with_reducible refine G.alloc ?_ _ | with_reducible refine Below.setCell ?_ (by first | (simp; done) | (simp; omega)) _ | with_reducible refine G.trans ?_ hb12 | with_reducible refine G.trans ?_ hb11 | with_reducible refine G.trans ?_ hb10 | with_reducible refine G.trans ?_ hb9 | with_reducible refine G.trans ?_ hb8 | with_reducible refine G.trans ?_ hb7 | with_reducible refine G.trans ?_ hb6 | with_reducible refine G.trans ?_ hb5 | with_reducible refine G.trans ?_ hb4 | with_reducible refine G.trans ?_ hb3 | with_reducible refine G.trans ?_ hb2 | with_reducible refine G.trans ?_ hb1 | with_reducible refine G.trans ?_ hb | assumption)
  have ha' : Abv (w.heap.size + 1 + 1) A := ha.mono (by simp)
  clear hc hf hb
  go_wp2_with fail
  refine bodyPost_ret (v := .agg #[.int .i64 (sgn z), .slice A m c]) (by simp only [results, Tryd.results20]; go_simp) rfl ⟨A, m, c, rfl, ⟨?_, hmc, hcm⟩, ha'.mono (by omega), ?_⟩
  · exact Sl.setCell (Sl.setCell hs ha' (by simp) _) ha' (by simp) _
  · exact (hbw.setCell (by simp) _).setCell (by simp) _
end Go.Proofs.YtoipapcbngknfaaDoor
