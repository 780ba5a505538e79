/- The reference's Plus on whatever integers, and its Add. -/
import Derived.Test.YtoipapcbngknfaaDoorRef3
import Derived.Test.YtoipapcbngknfaaDoorRef4
import Derived.Test.YtoipapcbngknfaaDoorRef5
import Derived.Test.YtoipapcbngknfaaDoorDec4
namespace Go.Proofs.YtoipapcbngknfaaDoor
set_option linter.unusedVariables false
set_option linter.unnecessarySimpa false
set_option linter.unusedSimpArgs false
open Go.RowKit

set_option maxRecDepth 20000 in set_option maxHeartbeats 1000000 in
theorem plus_swap (s t z : Int) (A B : Option Addr) (n m c d : Nat) (xs ys : List Int) (w : World) (hx : Sl w A n (i64s xs)) (hy : Sl w B m (i64s ys)) (hdx : Dig xs) (hdy : Dig ys) (hn : n ≤ 1000) (hm : m ≤ 1000)
    (hs : ¬ s = 0) (ht : ¬ t = 0) (hst : ¬ s = t) (hlt : valD xs < valD ys)
    (hin : ∀ w, Sl w A n (i64s xs) → Sl w B m (i64s ys) → Calls Tryd.prog 19 #[.agg #[.int .i64 t, .slice B m d], .agg #[.int .i64 s, .slice A n c]] w (RetW z w)) :
    Calls Tryd.prog 19 #[.agg #[.int .i64 s, .slice A n c], .agg #[.int .i64 t, .slice B m d]] w (RetW z w) := by
  have AB := fun w h1 h2 => above_any s t A B n m c d xs ys w h1 h2 hdx hdy (by omega) (by omega)
  rw [cmpI_lt hlt] at AB
  replace AB := Lib.hid AB
  have IN := Lib.hid hin
  have hsb : (s == 0) = false := by simp [hs]
  have htb : (t == 0) = false := by simp [ht]
  have hnb : (s != t) = true := by simp [hst]
  clear hdx hdy hlt hin hs ht hst
  go_enter Tryd.func19, Tryd.ntmps19
  go_wp2_with fail
  refine (AB.out _ (by repeat (first | with_reducible assumption | with_reducible exact Sl.new' (by simp; done) (by simp; done) (by simp; done) | with_reducible refine Sl.drew ?_ | with_reducible refine Sl.drewN ?_ _ | with_reducible refine Sl.alloc ?_ _ | with_reducible refine Sl.grow ?_ hb12 | with_reducible refine Sl.grow ?_ hb11 | with_reducible refine Sl.grow ?_ hb10 | with_reducible refine Sl.grow ?_ hb9 | with_reducible refine Sl.grow ?_ hb8 | with_reducible refine Sl.grow ?_ hb7 | with_reducible refine Sl.grow ?_ hb6 | with_reducible refine Sl.grow ?_ hb5 | with_reducible refine Sl.grow ?_ hb4 | with_reducible refine Sl.grow ?_ hb3 | with_reducible refine Sl.grow ?_ hb2 | with_reducible refine Sl.grow ?_ hb1 | with_reducible refine Sl.grow ?_ hb | assumption)) (by repeat (first | with_reducible assumption | with_reducible exact Sl.new' (by simp; done) (by simp; done) (by simp; done) | with_reducible refine Sl.drew ?_ | with_reducible refine Sl.drewN ?_ _ | with_reducible refine Sl.alloc ?_ _ | with_reducible refine Sl.grow ?_ hb12 | with_reducible refine Sl.grow ?_ hb11 | with_reducible refine Sl.grow ?_ hb10 | with_reducible refine Sl.grow ?_ hb9 | with_reducible refine Sl.grow ?_ hb8 | with_reducible refine Sl.grow ?_ hb7 | with_reducible refine Sl.grow ?_ hb6 | with_reducible refine Sl.grow ?_ hb5 | with_reducible refine Sl.grow ?_ hb4 | with_reducible refine Sl.grow ?_ hb3 | with_reducible refine Sl.grow ?_ hb2 | with_reducible refine Sl.grow ?_ hb1 | with_reducible refine Sl.grow ?_ hb | assumption))).mono ?_
  rintro e w0 ⟨rfl, hb0⟩
  
  replace k0 := G.cell (a := ⟨w.heap.size, 0, none⟩) (v := .int .i64 s) (by go_simp) hb0
  replace k1 := G.cell (a := ⟨w.heap.size, 1, none⟩) (v := .slice A n c) (by go_simp) hb0
  replace k2 := G.cell (a := ⟨w.heap.size + 1, 0, none⟩) (v := .int .i64 t) (by go_simp) hb0
  replace k3 := G.cell (a := ⟨w.heap.size + 1, 1, none⟩) (v := .slice B m d) (by go_simp) hb0
  replace k4 := G.cell (a := ⟨w.heap.size + 1 + 1, 0, none⟩) (v := .int .i64 0) (by go_simp) hb0
  replace k5 := G.cell (a := ⟨w.heap.size + 1 + 1, 1, none⟩) (v := .slice none 0 0) (by go_simp) hb0
  replace lt0 := cell_lt k0
  replace lt1 := cell_lt k1
  replace lt2 := cell_lt k2
  replace lt3 := cell_lt k3
  replace lt4 := cell_lt k4
  replace lt5 := cell_lt k5
  obtain ⟨hc0, hf0⟩ := G.old hb0
  have z4 : w0.frozen? ⟨w.heap.size + 1 + 1, 0, none⟩ = false := (hf0 _ _ (by simp)).trans (by go_simp)
  have z5 : w0.frozen? ⟨w.heap.size + 1 + 1, 1, none⟩ = false := (hf0 _ _ (by simp)).trans (by go_simp)
  have hbw : Below w.heap.size w w0 := G.trans (by repeat (first | with_reducible assumption | with_reducible exact G.refl _ | with_reducible refine G.drew ?_ | with_reducible refine G.drewN ?_ _ | with_reducible refine G.alloc ?_ _ | with_reducible refine Below.setCell ?_ (by first | (simp; done) | (simp; omega)) _ | with_reducible refine G.trans ?_ hb12 | with_reducible refine G.trans ?_ hb11 | with_reducible refine G.trans ?_ hb10 | with_reducible refine G.trans ?_ hb9 | with_reducible refine G.trans ?_ hb8 | with_reducible refine G.trans ?_ hb7 | with_reducible refine G.trans ?_ hb6 | with_reducible refine G.trans ?_ hb5 | with_reducible refine G.trans ?_ hb4 | with_reducible refine G.trans ?_ hb3 | with_reducible refine G.trans ?_ hb2 | with_reducible refine G.trans ?_ hb1 | with_reducible refine G.trans ?_ hb | assumption)) hb0
  have hbr : Box2 w0 (w.heap.size + 1 + 1) (.int .i64 0) (.slice none 0 0) := ⟨k4, k5, z4, z5⟩
  clear hc0 hf0
  go_wp2_with fail
  refine (IN.out _ (hx.grow hbw) (hy.grow hbw)).mono ?_
  rintro e w1 ⟨A1, n1, c1, rfl, ⟨hs1, hn1, hm1⟩, ha1, hb1⟩
  obtain ⟨r1, r2, r3, r4⟩ := hbr.grow hb1
  have ltR := cell_lt r1
  have ltr := hbr.lt
  go_wp2_with fail
  refine bodyPost_ret (v := .agg #[.int .i64 (sgn z), .slice A1 n1 c1]) (by simp only [results, Tryd.results19]; go_simp) rfl ⟨A1, n1, c1, rfl, ⟨?_, hn1, hm1⟩, ha1.mono hbw.size, ?_⟩
  · exact Sl.setCell (Sl.setCell hs1 ha1 (by simp; omega) _) ha1 (by simp; omega) _
  · exact ((G.trans hbw hb1).setCell (by simp; omega) _).setCell (by simp; omega) _

/-- The call gives a wide integer, of its own or one of the arguments. -/
def RetV (z : Int) (w : World) (e : Ending) (w' : World) : Prop := ∃ A n c, e = .returned (.agg #[.int .i64 (sgn z), .slice A n c]) ∧ Wd w' A n c z ∧ Below w.heap.size w w'
theorem RetW.v {z z' : Int} {w w' : World} {e : Ending} (h : RetW z w e w') (hz : z = z') : RetV z' w e w' := by
  subst hz
  obtain ⟨A, n, c, h1, h2, _, h3⟩ := h
  exact ⟨A, n, c, h1, h2, h3⟩
theorem sgn_cases (z : Int) : (sgn z = 1 ∧ 0 < z) ∨ (sgn z = -1 ∧ z < 0) ∨ (sgn z = 0 ∧ z = 0) := by
  unfold sgn
  rcases Int.lt_trichotomy z 0 with h | h | h
  · right; left; rw [if_pos h]; exact ⟨rfl, h⟩
  · right; right; rw [if_neg (by omega), if_pos h]; exact ⟨rfl, h⟩
  · left; rw [if_neg (by omega), if_neg (by omega)]; exact ⟨rfl, h⟩
theorem plus_any (y z : Int) (A B : Option Addr) (n m c d : Nat) (w : World) (ha : Wd w A n c y) (hb : Wd w B m d z) (hn : n ≤ 1000) (hm : m ≤ 1000) :
    Calls Tryd.prog 19 #[.agg #[.int .i64 (sgn y), .slice A n c], .agg #[.int .i64 (sgn z), .slice B m d]] w (RetV (y + z) w) := by
  have hdy := dig_digs y.natAbs
  have hdz := dig_digs z.natAbs
  have vy := valD_digs y.natAbs
  have vz := valD_digs z.natAbs
  rcases sgn_cases y with ⟨e1, hy⟩ | ⟨e1, hy⟩ | ⟨e1, rfl⟩
  · rcases sgn_cases z with ⟨e2, hz⟩ | ⟨e2, hz⟩ | ⟨e2, rfl⟩
    · rw [e1, e2]
      exact (plus_pp A B n m c d _ _ w ha.1 hb.1 hdy hdz hn hm).mono fun e w' h => h.v (by rw [vy, vz]; omega)
    · rw [e1, e2]
      by_cases h : valD (digs z.natAbs) ≤ valD (digs y.natAbs)
      · exact (plus_pm A B n m c d _ _ w ha.1 hb.1 hdy hdz hn hm h).mono fun e w' h => h.v (by rw [vy, vz]; omega)
      · exact (plus_swap 1 (-1) _ A B n m c d _ _ w ha.1 hb.1 hdy hdz hn hm (by omega) (by omega) (by omega) (by omega) fun w h1 h2 => plus_mp B A m n d c _ _ w h2 h1 hdz hdy hm hn (by omega)).mono fun e w' h => h.v (by rw [vy, vz]; omega)
    · rw [e1, e2, Int.add_zero]
      exact (plus_r0 1 A B n m c d w (by omega)).mono fun e w' h => ⟨A, n, c, by rw [e1]; exact h.1, ha.grow h.2, h.2⟩
  · rcases sgn_cases z with ⟨e2, hz⟩ | ⟨e2, hz⟩ | ⟨e2, rfl⟩
    · rw [e1, e2]
      by_cases h : valD (digs z.natAbs) ≤ valD (digs y.natAbs)
      · exact (plus_mp A B n m c d _ _ w ha.1 hb.1 hdy hdz hn hm h).mono fun e w' h => h.v (by rw [vy, vz]; omega)
      · exact (plus_swap (-1) 1 _ A B n m c d _ _ w ha.1 hb.1 hdy hdz hn hm (by omega) (by omega) (by omega) (by omega) fun w h1 h2 => plus_pm B A m n d c _ _ w h2 h1 hdz hdy hm hn (by omega)).mono fun e w' h => h.v (by rw [vy, vz]; omega)
    · rw [e1, e2]
      exact (plus_mm A B n m c d _ _ w ha.1 hb.1 hdy hdz hn hm).mono fun e w' h => h.v (by rw [vy, vz]; omega)
    · rw [e1, e2, Int.add_zero]
      exact (plus_r0 (-1) A B n m c d w (by omega)).mono fun e w' h => ⟨A, n, c, by rw [e1]; exact h.1, ha.grow h.2, h.2⟩
  · rw [e1, Int.zero_add]
    exact (plus_l0 (sgn z) A B n m c d w).mono fun e w' h => ⟨B, m, d, h.1, hb.grow h.2, h.2⟩


set_option maxRecDepth 20000 in set_option maxHeartbeats 400000 in
theorem refadd_bad (n s m t : Int) (w : World) (hbad : ¬ (okN n s = true ∧ okN m t = true)) :
    Calls Tryd.prog 26 #[.agg #[.int .i64 n, .int .i64 s], .agg #[.int .i64 m, .int .i64 t]] w (RetF (addN n s m t) w) := by
  have hr : Hid (addN n s m t = (0, 0, 2)) := if_neg hbad
  have I1 := fun w => is_any n s w
  have I2 := fun w => is_any m t w
  generalize okN n s = p at *
  generalize okN m t = q at *
  replace I1 := Lib.hid I1
  replace I2 := Lib.hid I2
  cases p
  · clear hbad
    go_enter Tryd.func26, Tryd.ntmps26
    go_wp2_with fail
    refine (I1.out _).mono ?_
    rintro e w1 ⟨rfl, hb⟩
    
    replace k0 := G.cell (a := ⟨w.heap.size + 1 + 1, 0, none⟩) (v := .int .i64 0) (by go_simp) hb
    replace k1 := G.cell (a := ⟨w.heap.size + 1 + 1, 1, none⟩) (v := .int .i64 0) (by go_simp) hb
    replace lt0 := cell_lt k0
    replace lt1 := cell_lt k1
    obtain ⟨hc, hf⟩ := G.old hb
    have z0 : w1.frozen? ⟨w.heap.size + 1 + 1, 0, none⟩ = false := (hf _ _ (by simp)).trans (by go_simp)
    have z1 : w1.frozen? ⟨w.heap.size + 1 + 1, 1, none⟩ = false := (hf _ _ (by simp)).trans (by go_simp)
    go_wp2_with fail
    exact bodyPost_ret (v := .tuple #[.agg #[.int .i64 0, .int .i64 0], .int .i64 2]) (by simp only [results, Tryd.results26]; go_simp) rfl ⟨by rw [hr.out], by repeat (first | with_reducible assumption | with_reducible exact G.refl _ | with_reducible refine G.drew ?_ | with_reducible refine G.drewN ?_ _ | with_reducible refine G.alloc ?_ _ | with_reducible refine Below.setCell ?_ (by first | (simp; done) | (simp; omega)) _ | with_reducible refine G.trans ?_ hb12 | with_reducible refine G.trans ?_ hb11 | with_reducible refine G.trans ?_ hb10 | with_reducible refine G.trans ?_ hb9 | with_reducible refine G.trans ?_ hb8 | with_reducible refine G.trans ?_ hb7 | with_reducible refine G.trans ?_ hb6 | with_reducible refine G.trans ?_ hb5 | with_reducible refine G.trans ?_ hb4 | with_reducible refine G.trans ?_ hb3 | with_reducible refine G.trans ?_ hb2 | with_reducible refine G.trans ?_ hb1 | with_reducible refine G.trans ?_ hb | assumption)⟩
  · cases q
    · clear hbad
      go_enter Tryd.func26, Tryd.ntmps26
      go_wp2_with fail
      refine (I1.out _).mono ?_
      rintro e w1 ⟨rfl, hb⟩
      
      replace k0 := G.cell (a := ⟨w.heap.size + 1, 0, none⟩) (v := .int .i64 m) (by go_simp) hb
      replace k1 := G.cell (a := ⟨w.heap.size + 1, 1, none⟩) (v := .int .i64 t) (by go_simp) hb
      replace k2 := G.cell (a := ⟨w.heap.size + 1 + 1, 0, none⟩) (v := .int .i64 0) (by go_simp) hb
      replace k3 := G.cell (a := ⟨w.heap.size + 1 + 1, 1, none⟩) (v := .int .i64 0) (by go_simp) hb
      replace lt0 := cell_lt k0
      replace lt1 := cell_lt k1
      replace lt2 := cell_lt k2
      replace lt3 := cell_lt k3
      obtain ⟨hc, hf⟩ := G.old hb
      have z0 : w1.frozen? ⟨w.heap.size + 1 + 1, 0, none⟩ = false := (hf _ _ (by simp)).trans (by go_simp)
      have z1 : w1.frozen? ⟨w.heap.size + 1 + 1, 1, none⟩ = false := (hf _ _ (by simp)).trans (by go_simp)
      have hbx : Box2 w1 (w.heap.size + 1 + 1) (.int .i64 0) (.int .i64 0) := ⟨k2, k3, z0, z1⟩
      have hbw : Below w.heap.size w w1 := by repeat (first | with_reducible assumption | with_reducible exact G.refl _ | with_reducible refine G.drew ?_ | with_reducible refine G.drewN ?_ _ | with_reducible refine G.alloc ?_ _ | with_reducible refine Below.setCell ?_ (by first | (simp; done) | (simp; omega)) _ | with_reducible refine G.trans ?_ hb12 | with_reducible refine G.trans ?_ hb11 | with_reducible refine G.trans ?_ hb10 | with_reducible refine G.trans ?_ hb9 | with_reducible refine G.trans ?_ hb8 | with_reducible refine G.trans ?_ hb7 | with_reducible refine G.trans ?_ hb6 | with_reducible refine G.trans ?_ hb5 | with_reducible refine G.trans ?_ hb4 | with_reducible refine G.trans ?_ hb3 | with_reducible refine G.trans ?_ hb2 | with_reducible refine G.trans ?_ hb1 | with_reducible refine G.trans ?_ hb | assumption)
      clear hc hf
      go_wp2_with fail
      refine (I2.out _).mono ?_
      rintro e w2 ⟨rfl, hb2⟩
      obtain ⟨r1, r2, r3, r4⟩ := hbx.grow hb2
      have ltR := cell_lt r1
      go_wp2_with fail
      exact bodyPost_ret (v := .tuple #[.agg #[.int .i64 0, .int .i64 0], .int .i64 2]) (by simp only [results, Tryd.results26]; go_simp) rfl ⟨by rw [hr.out], ((G.trans hbw hb2).setCell (by simp; omega) _).setCell (by simp; omega) _⟩
    · exact absurd ⟨rfl, rfl⟩ hbad
theorem digs_27 {n : Int} {q : Nat} (h0 : -999999999999999 ≤ n) (h1 : n ≤ 999999999999999) (hq : q ≤ 12) : (digs (n * p10 q).natAbs).length ≤ 1000 := by
  refine Nat.le_trans (len_digs_le (k := 27) ?_) (by omega)
  have h2 : p10 q ≤ 1000000000000 := by have := p10_mono hq; rwa [show p10 12 = 1000000000000 by decide] at this
  have h3 := p10_pos q
  rw [Int.natAbs_mul]
  have h4 : n.natAbs * (p10 q).natAbs ≤ 999999999999999 * 1000000000000 := Nat.mul_le_mul (by omega) (by omega)
  exact Nat.lt_of_le_of_lt h4 (by decide)
set_option maxRecDepth 20000 in set_option maxHeartbeats 1000000 in
theorem refadd_ok (n s m t : Int) (w : World) (h1 : okN n s = true) (h2 : okN m t = true) :
    Calls Tryd.prog 26 #[.agg #[.int .i64 n, .int .i64 s], .agg #[.int .i64 m, .int .i64 t]] w (RetF (addN n s m t) w) := by
  have hr : Hid (addN n s m t = fitN (n * p10 (max s.toNat t.toNat - s.toNat) + m * p10 (max s.toNat t.toNat - t.toNat)) ((max s.toNat t.toNat : Nat) : Int)) := if_pos ⟨h1, h2⟩
  have I1 := Lib.hid (fun w => is_any n s w)
  have I2 := Lib.hid (fun w => is_any m t w)
  rw [h1] at I1
  rw [h2] at I2
  obtain ⟨j, rfl, hj, hn0, hn1⟩ := okN_nat h1
  obtain ⟨i, rfl, hi, hm0, hm1⟩ := okN_nat h2
  simp only [Int.toNat_natCast] at hr
  clear h1 h2
  have main : ∀ sc : Nat, j ≤ sc → i ≤ sc → sc ≤ 12 → ((i ≤ j ∧ sc = j) ∨ (j < i ∧ sc = i)) → addN n j m i = fitN (n * p10 (sc - j) + m * p10 (sc - i)) sc → Calls Tryd.prog 26 #[.agg #[.int .i64 n, .int .i64 j], .agg #[.int .i64 m, .int .i64 i]] w (RetF (addN n j m i) w) := by
    intro sc hjs his hsc hcase hadd
    have P1 := Lib.hid (fun w => at_any n j sc w hn0 hn1 hjs hsc)
    have P2 := Lib.hid (fun w => at_any m i sc w hm0 hm1 his hsc)
    have l1 := Lib.hid (digs_27 (q := sc - j) hn0 hn1 (by omega))
    have l2 := Lib.hid (digs_27 (q := sc - i) hm0 hm1 (by omega))
    have FT := fun A n' c w hx => fitW_any (n * p10 (sc - j) + m * p10 (sc - i)) A n' c sc w hx (by omega)
    rw [show fitW (n * p10 (sc - j) + m * p10 (sc - i)) sc = addN n j m i by rw [hadd]; exact if_pos hsc] at FT
    generalize n * p10 (sc - j) = Z1 at *
    generalize m * p10 (sc - i) = Z2 at *
    generalize addN n j m i = p at *
    replace FT := Lib.hid FT
    clear hadd hr hn0 hn1 hm0 hm1
    rcases hcase with ⟨hc1, rfl⟩ | ⟨hc1, rfl⟩
    · have hc2 : (i : Int) ≤ (sc : Int) := by omega
      go_enter Tryd.func26, Tryd.ntmps26
      go_wp2_with fail
      refine (I1.out _).mono ?_
      rintro e w1 ⟨rfl, hb⟩
      
      replace k0 := G.cell (a := ⟨w.heap.size, 0, none⟩) (v := .int .i64 n) (by go_simp) hb
      replace k1 := G.cell (a := ⟨w.heap.size, 1, none⟩) (v := .int .i64 sc) (by go_simp) hb
      replace k2 := G.cell (a := ⟨w.heap.size + 1, 0, none⟩) (v := .int .i64 m) (by go_simp) hb
      replace k3 := G.cell (a := ⟨w.heap.size + 1, 1, none⟩) (v := .int .i64 i) (by go_simp) hb
      replace k4 := G.cell (a := ⟨w.heap.size + 1 + 1, 0, none⟩) (v := .int .i64 0) (by go_simp) hb
      replace k5 := G.cell (a := ⟨w.heap.size + 1 + 1, 1, none⟩) (v := .int .i64 0) (by go_simp) hb
      replace lt0 := cell_lt k0
      replace lt1 := cell_lt k1
      replace lt2 := cell_lt k2
      replace lt3 := cell_lt k3
      replace lt4 := cell_lt k4
      replace lt5 := cell_lt k5
      obtain ⟨hc, hf⟩ := G.old hb
      have z0 : w1.frozen? ⟨w.heap.size + 1 + 1, 0, none⟩ = false := (hf _ _ (by simp)).trans (by go_simp)
      have z1 : w1.frozen? ⟨w.heap.size + 1 + 1, 1, none⟩ = false := (hf _ _ (by simp)).trans (by go_simp)
      have hbx : Box2 w1 (w.heap.size + 1 + 1) (.int .i64 0) (.int .i64 0) := ⟨k4, k5, z0, z1⟩
      have hbw : Below w.heap.size w w1 := by repeat (first | with_reducible assumption | with_reducible exact G.refl _ | with_reducible refine G.drew ?_ | with_reducible refine G.drewN ?_ _ | with_reducible refine G.alloc ?_ _ | with_reducible refine Below.setCell ?_ (by first | (simp; done) | (simp; omega)) _ | with_reducible refine G.trans ?_ hb12 | with_reducible refine G.trans ?_ hb11 | with_reducible refine G.trans ?_ hb10 | with_reducible refine G.trans ?_ hb9 | with_reducible refine G.trans ?_ hb8 | with_reducible refine G.trans ?_ hb7 | with_reducible refine G.trans ?_ hb6 | with_reducible refine G.trans ?_ hb5 | with_reducible refine G.trans ?_ hb4 | with_reducible refine G.trans ?_ hb3 | with_reducible refine G.trans ?_ hb2 | with_reducible refine G.trans ?_ hb1 | with_reducible refine G.trans ?_ hb | assumption)
      clear hc hf hb z0 z1
      go_wp2_with fail
      refine (I2.out _).mono ?_
      rintro e w2 ⟨rfl, hb2⟩
      replace k0 := G.cell (a := ⟨w.heap.size, 0, none⟩) (v := .int .i64 n) (by go_simp) hb2
      replace k1 := G.cell (a := ⟨w.heap.size, 1, none⟩) (v := .int .i64 sc) (by go_simp) hb2
      replace k2 := G.cell (a := ⟨w.heap.size + 1, 0, none⟩) (v := .int .i64 m) (by go_simp) hb2
      replace k3 := G.cell (a := ⟨w.heap.size + 1, 1, none⟩) (v := .int .i64 i) (by go_simp) hb2
      replace k4 := G.cell (a := ⟨w.heap.size + 1 + 1, 0, none⟩) (v := .int .i64 0) (by go_simp) hb2
      replace k5 := G.cell (a := ⟨w.heap.size + 1 + 1, 1, none⟩) (v := .int .i64 0) (by go_simp) hb2
      replace lt0 := cell_lt k0
      replace lt1 := cell_lt k1
      replace lt2 := cell_lt k2
      replace lt3 := cell_lt k3
      replace lt4 := cell_lt k4
      replace lt5 := cell_lt k5
      replace hbx := hbx.grow hb2
      replace hbw := G.trans hbw hb2
      go_wp2_with fail
      refine wp_region_ord [(0, 1), (1, 1), (3, 1), (4, 1), (7, 1), (2, 2), (5, 2), (6, 2), (8, 2), (9, 1), (10, 1), (11, 3), (12, 0)] [11] 5 (by kernel_rfl) (by decide +kernel) ?_
      simp only [pickO, List.getElem?_cons_succ, List.getElem?_cons_zero]
      intro w0 hG
      (repeat ((first | (with_reducible refine ord_q1 ?_) | (with_reducible refine ord_q0 ?_)); intro K hK; first | (refine Or.inr ⟨?_, ?_⟩; (focus (go_simp; first | done | (simp [undef]; done))); go_simp; (with_reducible refine hK _ ?_); clear hK K) | (refine Or.inl ⟨?_, ?_⟩; (focus (go_simp; done)); apply Exists.intro; refine And.intro ?_ ?_; (focus (first | (intro wq hq; obtain ⟨hcq, hfq⟩ := G.old hq; go_simp; (first | done | exact rfl); done) | (intro wq; go_simp; (first | done | exact rfl); done))); go_simp; (with_reducible refine hK _ ?_); clear hK K) | fail))
      (with_reducible refine ord_run ?_ hG)
      intro K hK
      go_simp
      go_at_call 20; (with_reducible refine (P1.out _).mono ?_); rintro e w3 ⟨A3, n3, c3, rfl, hw3, ha3, hb3⟩
      replace hG := Grew.trans hG hb3
      (try dsimp only)
      (with_reducible refine hK _ _ hG ?_)
      clear hK K
      (repeat ((first | (with_reducible refine ord_q1 ?_) | (with_reducible refine ord_q0 ?_)); intro K hK; first | (refine Or.inr ⟨?_, ?_⟩; (focus (go_simp; first | done | (simp [undef]; done))); go_simp; (with_reducible refine hK _ ?_); clear hK K) | (refine Or.inl ⟨?_, ?_⟩; (focus (go_simp; done)); apply Exists.intro; refine And.intro ?_ ?_; (focus (first | (intro wq hq; obtain ⟨hcq, hfq⟩ := G.old hq; go_simp; (first | done | exact rfl); done) | (intro wq; go_simp; (first | done | exact rfl); done))); go_simp; (with_reducible refine hK _ ?_); clear hK K) | fail))
      (with_reducible refine ord_run ?_ hG)
      intro K hK
      go_simp
      go_at_call 20; (with_reducible refine (P2.out _).mono ?_); rintro e w4 ⟨A4, n4, c4, rfl, hw4, ha4, hb4⟩
      replace hG := Grew.trans hG hb4
      (try dsimp only)
      (with_reducible refine hK _ _ hG ?_)
      clear hK K
      (repeat ((first | (with_reducible refine ord_q1 ?_) | (with_reducible refine ord_q0 ?_)); intro K hK; first | (refine Or.inr ⟨?_, ?_⟩; (focus (go_simp; first | done | (simp [undef]; done))); go_simp; (with_reducible refine hK _ ?_); clear hK K) | (refine Or.inl ⟨?_, ?_⟩; (focus (go_simp; done)); apply Exists.intro; refine And.intro ?_ ?_; (focus (first | (intro wq hq; obtain ⟨hcq, hfq⟩ := G.old hq; go_simp; (first | done | exact rfl); done) | (intro wq; go_simp; (first | done | exact rfl); done))); go_simp; (with_reducible refine hK _ ?_); clear hK K) | fail))
      (with_reducible refine ord_run ?_ hG)
      intro K hK
      go_simp
      go_at_call 19; (with_reducible refine (plus_any Z1 Z2 A3 A4 n3 n4 c3 c4 _ (hw3.grow hb4) hw4 (by rw [← hw3.len]; exact l1.out) (by rw [← hw4.len]; exact l2.out)).mono ?_); rintro e w5 ⟨A5, n5, c5, rfl, hw5, hb5⟩
      replace hG := Grew.trans hG hb5
      (try dsimp only)
      (with_reducible refine hK _ _ hG ?_)
      clear hK K
      (repeat ((first | (with_reducible refine ord_q1 ?_) | (with_reducible refine ord_q0 ?_)); intro K hK; first | (refine Or.inr ⟨?_, ?_⟩; (focus (go_simp; first | done | (simp [undef]; done))); go_simp; (with_reducible refine hK _ ?_); clear hK K) | (refine Or.inl ⟨?_, ?_⟩; (focus (go_simp; done)); apply Exists.intro; refine And.intro ?_ ?_; (focus (first | (intro wq hq; obtain ⟨hcq, hfq⟩ := G.old hq; go_simp; (first | done | exact rfl); done) | (intro wq; go_simp; (first | done | exact rfl); done))); go_simp; (with_reducible refine hK _ ?_); clear hK K) | fail))
      (with_reducible refine ord_run ?_ hG)
      intro K hK
      go_simp
      go_at_call 44; (with_reducible refine (FT.out A5 n5 c5 _ hw5).mono ?_); rintro e w6 ⟨rfl, hb6⟩
      replace hG := Grew.trans hG hb6
      (try dsimp only)
      (with_reducible refine hK _ _ hG ?_)
      clear hK K
      (repeat ((first | (with_reducible refine ord_q1 ?_) | (with_reducible refine ord_q0 ?_)); intro K hK; first | (refine Or.inr ⟨?_, ?_⟩; (focus (go_simp; first | done | (simp [undef]; done))); go_simp; (with_reducible refine hK _ ?_); clear hK K) | (refine Or.inl ⟨?_, ?_⟩; (focus (go_simp; done)); apply Exists.intro; refine And.intro ?_ ?_; (focus (first | (intro wq hq; obtain ⟨hcq, hfq⟩ := G.old hq; go_simp; (first | done | exact rfl); done) | (intro wq; go_simp; (first | done | exact rfl); done))); go_simp; (with_reducible refine hK _ ?_); clear hK K) | fail))
      obtain ⟨r1, r2, r3, r4⟩ := hbx.grow hG.b
      have ltR := cell_lt r1
      replace hbw := G.trans hbw hG.b
      ((with_reducible refine ord_tail ?_); intro K hK; go_simp; (with_reducible refine hK _ _ ?_); clear hK K)
      (repeat ((first | (with_reducible refine ord_q1 ?_) | (with_reducible refine ord_q0 ?_)); intro K hK; first | (refine Or.inr ⟨?_, ?_⟩; (focus (go_simp; first | done | (simp [undef]; done))); go_simp; (with_reducible refine hK _ ?_); clear hK K) | (refine Or.inl ⟨?_, ?_⟩; (focus (go_simp; done)); apply Exists.intro; refine And.intro ?_ ?_; (focus (first | (intro wq hq; obtain ⟨hcq, hfq⟩ := G.old hq; go_simp; (first | done | exact rfl); done) | (intro wq; go_simp; (first | done | exact rfl); done))); go_simp; (with_reducible refine hK _ ?_); clear hK K) | fail))
      (with_reducible refine ord_nil ?_)
      go_wp2_with fail
      exact bodyPost_ret (v := .tuple #[.agg #[.int .i64 p.1, .int .i64 p.2.1], .int .i64 p.2.2]) (by simp only [results, Tryd.results26]; go_simp) rfl ⟨rfl, (hbw.setCell (by simp; omega) _).setCell (by simp; omega) _⟩
    · have hc2 : ¬ (sc : Int) ≤ (j : Int) := by omega
      go_enter Tryd.func26, Tryd.ntmps26
      go_wp2_with fail
      refine (I1.out _).mono ?_
      rintro e w1 ⟨rfl, hb⟩
      
      replace k0 := G.cell (a := ⟨w.heap.size, 0, none⟩) (v := .int .i64 n) (by go_simp) hb
      replace k1 := G.cell (a := ⟨w.heap.size, 1, none⟩) (v := .int .i64 j) (by go_simp) hb
      replace k2 := G.cell (a := ⟨w.heap.size + 1, 0, none⟩) (v := .int .i64 m) (by go_simp) hb
      replace k3 := G.cell (a := ⟨w.heap.size + 1, 1, none⟩) (v := .int .i64 sc) (by go_simp) hb
      replace k4 := G.cell (a := ⟨w.heap.size + 1 + 1, 0, none⟩) (v := .int .i64 0) (by go_simp) hb
      replace k5 := G.cell (a := ⟨w.heap.size + 1 + 1, 1, none⟩) (v := .int .i64 0) (by go_simp) hb
      replace lt0 := cell_lt k0
      replace lt1 := cell_lt k1
      replace lt2 := cell_lt k2
      replace lt3 := cell_lt k3
      replace lt4 := cell_lt k4
      replace lt5 := cell_lt k5
      obtain ⟨hc, hf⟩ := G.old hb
      have z0 : w1.frozen? ⟨w.heap.size + 1 + 1, 0, none⟩ = false := (hf _ _ (by simp)).trans (by go_simp)
      have z1 : w1.frozen? ⟨w.heap.size + 1 + 1, 1, none⟩ = false := (hf _ _ (by simp)).trans (by go_simp)
      have hbx : Box2 w1 (w.heap.size + 1 + 1) (.int .i64 0) (.int .i64 0) := ⟨k4, k5, z0, z1⟩
      have hbw : Below w.heap.size w w1 := by repeat (first | with_reducible assumption | with_reducible exact G.refl _ | with_reducible refine G.drew ?_ | with_reducible refine G.drewN ?_ _ | with_reducible refine G.alloc ?_ _ | with_reducible refine Below.setCell ?_ (by first | (simp; done) | (simp; omega)) _ | with_reducible refine G.trans ?_ hb12 | with_reducible refine G.trans ?_ hb11 | with_reducible refine G.trans ?_ hb10 | with_reducible refine G.trans ?_ hb9 | with_reducible refine G.trans ?_ hb8 | with_reducible refine G.trans ?_ hb7 | with_reducible refine G.trans ?_ hb6 | with_reducible refine G.trans ?_ hb5 | with_reducible refine G.trans ?_ hb4 | with_reducible refine G.trans ?_ hb3 | with_reducible refine G.trans ?_ hb2 | with_reducible refine G.trans ?_ hb1 | with_reducible refine G.trans ?_ hb | assumption)
      clear hc hf hb z0 z1
      go_wp2_with fail
      refine (I2.out _).mono ?_
      rintro e w2 ⟨rfl, hb2⟩
      replace k0 := G.cell (a := ⟨w.heap.size, 0, none⟩) (v := .int .i64 n) (by go_simp) hb2
      replace k1 := G.cell (a := ⟨w.heap.size, 1, none⟩) (v := .int .i64 j) (by go_simp) hb2
      replace k2 := G.cell (a := ⟨w.heap.size + 1, 0, none⟩) (v := .int .i64 m) (by go_simp) hb2
      replace k3 := G.cell (a := ⟨w.heap.size + 1, 1, none⟩) (v := .int .i64 sc) (by go_simp) hb2
      replace k4 := G.cell (a := ⟨w.heap.size + 1 + 1, 0, none⟩) (v := .int .i64 0) (by go_simp) hb2
      replace k5 := G.cell (a := ⟨w.heap.size + 1 + 1, 1, none⟩) (v := .int .i64 0) (by go_simp) hb2
      replace lt0 := cell_lt k0
      replace lt1 := cell_lt k1
      replace lt2 := cell_lt k2
      replace lt3 := cell_lt k3
      replace lt4 := cell_lt k4
      replace lt5 := cell_lt k5
      replace hbx := hbx.grow hb2
      replace hbw := G.trans hbw hb2
      go_wp2_with fail
      refine wp_region_ord [(0, 1), (1, 1), (3, 1), (4, 1), (7, 1), (2, 2), (5, 2), (6, 2), (8, 2), (9, 1), (10, 1), (11, 3), (12, 0)] [11] 5 (by kernel_rfl) (by decide +kernel) ?_
      simp only [pickO, List.getElem?_cons_succ, List.getElem?_cons_zero]
      intro w0 hG
      (repeat ((first | (with_reducible refine ord_q1 ?_) | (with_reducible refine ord_q0 ?_)); intro K hK; first | (refine Or.inr ⟨?_, ?_⟩; (focus (go_simp; first | done | (simp [undef]; done))); go_simp; (with_reducible refine hK _ ?_); clear hK K) | (refine Or.inl ⟨?_, ?_⟩; (focus (go_simp; done)); apply Exists.intro; refine And.intro ?_ ?_; (focus (first | (intro wq hq; obtain ⟨hcq, hfq⟩ := G.old hq; go_simp; (first | done | exact rfl); done) | (intro wq; go_simp; (first | done | exact rfl); done))); go_simp; (with_reducible refine hK _ ?_); clear hK K) | fail))
      (with_reducible refine ord_run ?_ hG)
      intro K hK
      go_simp
      go_at_call 20; (with_reducible refine (P1.out _).mono ?_); rintro e w3 ⟨A3, n3, c3, rfl, hw3, ha3, hb3⟩
      replace hG := Grew.trans hG hb3
      (try dsimp only)
      (with_reducible refine hK _ _ hG ?_)
      clear hK K
      (repeat ((first | (with_reducible refine ord_q1 ?_) | (with_reducible refine ord_q0 ?_)); intro K hK; first | (refine Or.inr ⟨?_, ?_⟩; (focus (go_simp; first | done | (simp [undef]; done))); go_simp; (with_reducible refine hK _ ?_); clear hK K) | (refine Or.inl ⟨?_, ?_⟩; (focus (go_simp; done)); apply Exists.intro; refine And.intro ?_ ?_; (focus (first | (intro wq hq; obtain ⟨hcq, hfq⟩ := G.old hq; go_simp; (first | done | exact rfl); done) | (intro wq; go_simp; (first | done | exact rfl); done))); go_simp; (with_reducible refine hK _ ?_); clear hK K) | fail))
      (with_reducible refine ord_run ?_ hG)
      intro K hK
      go_simp
      go_at_call 20; (with_reducible refine (P2.out _).mono ?_); rintro e w4 ⟨A4, n4, c4, rfl, hw4, ha4, hb4⟩
      replace hG := Grew.trans hG hb4
      (try dsimp only)
      (with_reducible refine hK _ _ hG ?_)
      clear hK K
      (repeat ((first | (with_reducible refine ord_q1 ?_) | (with_reducible refine ord_q0 ?_)); intro K hK; first | (refine Or.inr ⟨?_, ?_⟩; (focus (go_simp; first | done | (simp [undef]; done))); go_simp; (with_reducible refine hK _ ?_); clear hK K) | (refine Or.inl ⟨?_, ?_⟩; (focus (go_simp; done)); apply Exists.intro; refine And.intro ?_ ?_; (focus (first | (intro wq hq; obtain ⟨hcq, hfq⟩ := G.old hq; go_simp; (first | done | exact rfl); done) | (intro wq; go_simp; (first | done | exact rfl); done))); go_simp; (with_reducible refine hK _ ?_); clear hK K) | fail))
      (with_reducible refine ord_run ?_ hG)
      intro K hK
      go_simp
      go_at_call 19; (with_reducible refine (plus_any Z1 Z2 A3 A4 n3 n4 c3 c4 _ (hw3.grow hb4) hw4 (by rw [← hw3.len]; exact l1.out) (by rw [← hw4.len]; exact l2.out)).mono ?_); rintro e w5 ⟨A5, n5, c5, rfl, hw5, hb5⟩
      replace hG := Grew.trans hG hb5
      (try dsimp only)
      (with_reducible refine hK _ _ hG ?_)
      clear hK K
      (repeat ((first | (with_reducible refine ord_q1 ?_) | (with_reducible refine ord_q0 ?_)); intro K hK; first | (refine Or.inr ⟨?_, ?_⟩; (focus (go_simp; first | done | (simp [undef]; done))); go_simp; (with_reducible refine hK _ ?_); clear hK K) | (refine Or.inl ⟨?_, ?_⟩; (focus (go_simp; done)); apply Exists.intro; refine And.intro ?_ ?_; (focus (first | (intro wq hq; obtain ⟨hcq, hfq⟩ := G.old hq; go_simp; (first | done | exact rfl); done) | (intro wq; go_simp; (first | done | exact rfl); done))); go_simp; (with_reducible refine hK _ ?_); clear hK K) | fail))
      (with_reducible refine ord_run ?_ hG)
      intro K hK
      go_simp
      go_at_call 44; (with_reducible refine (FT.out A5 n5 c5 _ hw5).mono ?_); rintro e w6 ⟨rfl, hb6⟩
      replace hG := Grew.trans hG hb6
      (try dsimp only)
      (with_reducible refine hK _ _ hG ?_)
      clear hK K
      (repeat ((first | (with_reducible refine ord_q1 ?_) | (with_reducible refine ord_q0 ?_)); intro K hK; first | (refine Or.inr ⟨?_, ?_⟩; (focus (go_simp; first | done | (simp [undef]; done))); go_simp; (with_reducible refine hK _ ?_); clear hK K) | (refine Or.inl ⟨?_, ?_⟩; (focus (go_simp; done)); apply Exists.intro; refine And.intro ?_ ?_; (focus (first | (intro wq hq; obtain ⟨hcq, hfq⟩ := G.old hq; go_simp; (first | done | exact rfl); done) | (intro wq; go_simp; (first | done | exact rfl); done))); go_simp; (with_reducible refine hK _ ?_); clear hK K) | fail))
      obtain ⟨r1, r2, r3, r4⟩ := hbx.grow hG.b
      have ltR := cell_lt r1
      replace hbw := G.trans hbw hG.b
      ((with_reducible refine ord_tail ?_); intro K hK; go_simp; (with_reducible refine hK _ _ ?_); clear hK K)
      (repeat ((first | (with_reducible refine ord_q1 ?_) | (with_reducible refine ord_q0 ?_)); intro K hK; first | (refine Or.inr ⟨?_, ?_⟩; (focus (go_simp; first | done | (simp [undef]; done))); go_simp; (with_reducible refine hK _ ?_); clear hK K) | (refine Or.inl ⟨?_, ?_⟩; (focus (go_simp; done)); apply Exists.intro; refine And.intro ?_ ?_; (focus (first | (intro wq hq; obtain ⟨hcq, hfq⟩ := G.old hq; go_simp; (first | done | exact rfl); done) | (intro wq; go_simp; (first | done | exact rfl); done))); go_simp; (with_reducible refine hK _ ?_); clear hK K) | fail))
      (with_reducible refine ord_nil ?_)
      go_wp2_with fail
      exact bodyPost_ret (v := .tuple #[.agg #[.int .i64 p.1, .int .i64 p.2.1], .int .i64 p.2.2]) (by simp only [results, Tryd.results26]; go_simp) rfl ⟨rfl, (hbw.setCell (by simp; omega) _).setCell (by simp; omega) _⟩
  rcases Nat.lt_or_ge j i with h | h
  · exact main i (by omega) (by omega) (by omega) (.inr ⟨h, rfl⟩) (by rw [hr.out, Nat.max_eq_right (by omega)])
  · exact main j (by omega) (by omega) (by omega) (.inl ⟨h, rfl⟩) (by rw [hr.out, Nat.max_eq_left h])
theorem refadd_any (n s m t : Int) (w : World) :
    Calls Tryd.prog 26 #[.agg #[.int .i64 n, .int .i64 s], .agg #[.int .i64 m, .int .i64 t]] w (RetF (addN n s m t) w) := by
  by_cases h : okN n s = true ∧ okN m t = true
  · exact refadd_ok n s m t w h.1 h.2
  · exact refadd_bad n s m t w h
end Go.Proofs.YtoipapcbngknfaaDoor
