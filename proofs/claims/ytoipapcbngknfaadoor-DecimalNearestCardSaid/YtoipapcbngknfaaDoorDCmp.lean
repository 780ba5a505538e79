/- What cmp.Compare and cmp.Or compute, and decimal.Compare. -/
import Derived.Test.YtoipapcbngknfaaDoorDec4
namespace Go.Proofs.YtoipapcbngknfaaDoor
set_option linter.unusedVariables false
set_option linter.unnecessarySimpa false
set_option linter.unusedSimpArgs false
open Go.RowKit

set_option maxRecDepth 20000 in set_option maxHeartbeats 400000 in
theorem isNaN_any (a : Int) (w : World) : Calls Tryd.prog 60 #[.int .i64 a] w fun e w' => e = .returned (.bool false) ∧ w = w' := by
  go_enter Tryd.func60, Tryd.ntmps60
  go_wp2
  go_ret
  exact ⟨rfl, rfl⟩

set_option maxRecDepth 20000 in set_option maxHeartbeats 400000 in
theorem cmp_any (a b : Int) (w : World) : Calls Tryd.prog 54 #[.int .i64 a, .int .i64 b] w fun e w' => e = .returned (.int .i64 (cmpI a b)) ∧ w = w' := by
  go_enter Tryd.func54, Tryd.ntmps54
  go_wp2_with (go_at_call 60; refine (isNaN_any _ _).mono ?_; rintro e w' ⟨rfl, rfl⟩)
  · go_ret; exact ⟨ret_i (cmpI_lt ‹_›).symm, rfl⟩
  · go_ret; exact ⟨ret_i (cmpI_gt ‹_›).symm, rfl⟩
  · go_ret; exact ⟨ret_i (cmpI_eq ‹_› ‹_›).symm, rfl⟩

set_option maxRecDepth 20000 in set_option maxHeartbeats 400000 in
theorem or_any (A : Option Addr) (n c : Nat) (xs : List Int) (w : World) (hx : Sl w A n (i64s xs)) (hn : n ≤ maxLen) :
    Calls Tryd.prog 53 #[.slice A n c] w fun e w' => e = .returned (.int .i64 (orL xs)) ∧ w = w' := by
  unfold maxLen at hn
  go_enter Tryd.func53, Tryd.ntmps53
  go_wp2
  go_loop [8] (fun i => ∃ k : Nat, k ≤ n ∧ i = .int .i64 k ∧ Hid (orL xs = orL (xs.drop k))) (fun i => n - (intOf i).toNat)
  case atStart => exact ⟨0, Nat.zero_le _, rfl, rfl⟩
  case round =>
    obtain ⟨k, hk, rfl, hc⟩ := hrel
    by_cases hlt : k < n
    · obtain ⟨bx, ox, x, rfl, hbx, hxk, hcx⟩ := hx.at_ hlt
      have hdx : Hid (xs.drop k = x :: xs.drop (k+1)) := drop_at hxk
      by_cases hxy : x = 0
      · have hs : Hid (orL xs = orL (xs.drop (k+1))) := by unfold Hid; rw [hc.out, hdx.out, orL, if_pos hxy]
        have hne : (x != 0) = false := by simp [hxy]
        clear hxy
        go_wp2
        go_round
        case rel => exact ⟨k+1, by omega, by go_num, hs⟩
        case measure => simp [intOf]; omega
      · have hs : Hid (orL xs = x) := by unfold Hid; rw [hc.out, hdx.out, orL, if_neg hxy]
        have hne : (x != 0) = true := by simp [hxy]
        clear hxy
        go_wp2
        go_ret
        exact ⟨ret_i hs.out.symm, rfl⟩
    · have hs : Hid (orL xs = 0) := by unfold Hid; rw [hc.out, List.drop_of_length_le (by have := hx.len; omega), orL]
      go_wp2
      go_ret
      exact ⟨ret_i hs.out.symm, rfl⟩


/-- What a number denotes, in units of the greatest scale. -/
def valN (n s : Int) : Int := n * p10 (12 - s.toNat)
theorem valN_parts {n s : Int} (h : okN n s = true) : valN n s = n.tdiv (p10 s.toNat) * 1000000000000 + n.tmod (p10 s.toNat) * p10 (12 - s.toNat) := by
  have h1 := okN_iff.1 h
  unfold valN
  have hU : (1000000000000 : Int) = p10 s.toNat * p10 (12 - s.toNat) := by rw [← p10_add, show s.toNat + (12 - s.toNat) = 12 by omega]; decide
  rw [hU, ← Int.mul_assoc, ← Int.add_mul, ← tparts]
theorem parts_bd {n s : Int} (h : okN n s = true) :
    -1000000000000 < n.tmod (p10 s.toNat) * p10 (12 - s.toNat) ∧ n.tmod (p10 s.toNat) * p10 (12 - s.toNat) < 1000000000000 ∧ (0 ≤ n → 0 ≤ n.tmod (p10 s.toNat) * p10 (12 - s.toNat) ∧ 0 ≤ n.tdiv (p10 s.toNat)) ∧ (n ≤ 0 → n.tmod (p10 s.toNat) * p10 (12 - s.toNat) ≤ 0 ∧ n.tdiv (p10 s.toNat) ≤ 0) := by
  have h1 := okN_iff.1 h
  have hp := p10_pos s.toNat
  have hr := p10_pos (12 - s.toNat)
  have h2 := tmod_mul_bd (n := n) hp hr
  rw [← p10_add, show s.toNat + (12 - s.toNat) = 12 by omega, show p10 12 = 1000000000000 by decide] at h2
  have h3 := tmod_bd (n := n) hp
  refine ⟨by omega, by omega, fun h0 => ⟨Int.mul_nonneg (h3.2.2.1 h0) (Int.le_of_lt hr), ?_⟩, fun h0 => ⟨?_, ?_⟩⟩
  · exact Int.tdiv_nonneg h0 (Int.le_of_lt hp)
  · have := Int.mul_nonneg (show 0 ≤ -n.tmod (p10 s.toNat) by have := h3.2.2.2 h0; omega) (Int.le_of_lt hr)
    rw [Int.neg_mul] at this
    omega
  · have := Int.tdiv_nonneg (a := -n) (b := p10 s.toNat) (by omega) (Int.le_of_lt hp)
    rw [Int.neg_tdiv] at this
    omega
/-- Two parts, compared one after the other, as the number itself. -/
theorem cmp_parts {W R W' R' a b : Int} (h1 : -1000000000000 < R) (h2 : R < 1000000000000) (h3 : -1000000000000 < R') (h4 : R' < 1000000000000)
    (ha : (0 ≤ a → 0 ≤ R ∧ 0 ≤ W) ∧ (a ≤ 0 → R ≤ 0 ∧ W ≤ 0)) (hb : (0 ≤ b → 0 ≤ R' ∧ 0 ≤ W') ∧ (b ≤ 0 → R' ≤ 0 ∧ W' ≤ 0)) :
    orL [cmpI W W', cmpI R R'] = cmpI (W * 1000000000000 + R) (W' * 1000000000000 + R') := by
  have hWR : (0 ≤ W ∧ 0 ≤ R) ∨ (W ≤ 0 ∧ R ≤ 0) := by
    rcases Int.le_total 0 a with h | h
    · exact .inl ⟨(ha.1 h).2, (ha.1 h).1⟩
    · exact .inr ⟨(ha.2 h).2, (ha.2 h).1⟩
  have hWR' : (0 ≤ W' ∧ 0 ≤ R') ∨ (W' ≤ 0 ∧ R' ≤ 0) := by
    rcases Int.le_total 0 b with h | h
    · exact .inl ⟨(hb.1 h).2, (hb.1 h).1⟩
    · exact .inr ⟨(hb.2 h).2, (hb.2 h).1⟩
  simp only [orL]
  rcases Int.lt_trichotomy W W' with h | h | h
  · rw [cmpI_lt h, if_neg (by omega), cmpI_lt]
    omega
  · subst h
    rw [cmpI_zero.2 rfl, if_pos rfl]
    have e : cmpI R R' = cmpI (W * 1000000000000 + R) (W * 1000000000000 + R') := by
      unfold cmpI
      (repeat' split) <;> omega
    rw [e]
    by_cases h0 : cmpI (W * 1000000000000 + R) (W * 1000000000000 + R') = 0
    · rw [if_pos h0, h0]
    · rw [if_neg h0]
  · rw [cmpI_gt h, if_neg (by omega), cmpI_gt]
    omega
/-- Compare's result and error. -/
def cmpN (n s m t : Int) : Int × Int := if okN n s = true ∧ okN m t = true then (cmpI (valN n s) (valN m t), 0) else (0, 2)
set_option maxRecDepth 20000 in set_option maxHeartbeats 1000000 in
theorem compare_any (n s m t : Int) (w : World) (h1 : (Lit.int .i64 n).wf = true) (h2 : (Lit.int .i64 m).wf = true) :
    Calls Tryd.prog 36 #[.agg #[.int .i64 n, .int .i64 s], .agg #[.int .i64 m, .int .i64 t]] w fun e w' => e = .returned (.tuple #[.int .i64 (cmpN n s m t).1, .int .i64 (cmpN n s m t).2]) ∧ Below w.heap.size w w' := by
  have C := Lib.hid (fun A c w hx => checkL2_any n s m t A c w hx h1 h2)
  by_cases h : okN n s = true ∧ okN m t = true
  · rw [if_pos h] at C
    obtain ⟨ho1, ho2⟩ := h
    have hr : Hid (cmpN n s m t = (cmpI (valN n s) (valN m t), 0)) := if_pos ⟨ho1, ho2⟩
    have b1 := parts_bd ho1
    have b2 := parts_bd ho2
    have hc := cmp_parts b1.1 b1.2.1 b2.1 b2.2.1 b1.2.2 b2.2.2
    rw [← valN_parts ho1, ← valN_parts ho2] at hc
    obtain ⟨j, rfl, hj, hn0, hn1⟩ := okN_nat ho1
    obtain ⟨i, rfl, hi, hm0, hm1⟩ := okN_nat ho2
    have P1 := fun w => parts_any n j w hj hn0 hn1
    have P2 := fun w => parts_any m i w hi hm0 hm1
    simp only [Int.toNat_natCast] at hc
    generalize n.tdiv (p10 j) = W at *
    generalize n.tmod (p10 j) * p10 (12 - j) = R at *
    generalize m.tdiv (p10 i) = W' at *
    generalize m.tmod (p10 i) * p10 (12 - i) = R' at *
    generalize cmpI (valN n j) (valN m i) = cv at *
    replace P1 := Lib.hid P1
    replace P2 := Lib.hid P2
    have hc' := Lib.hid hc
    clear b1 b2 hc h1 h2 ho1 ho2
    go_enter Tryd.func36, Tryd.ntmps36
    go_wp2_with fail
    refine (C.out _ _ _ ?_).mono ?_
    · exact NumsAt.two (by simp)
    rintro e w1 ⟨rfl, hb1⟩
    
    replace k0 := G.cell (a := ⟨w.heap.size, 0, none⟩) (v := .int .i64 n) (by go_simp) hb1
    replace k1 := G.cell (a := ⟨w.heap.size, 1, none⟩) (v := .int .i64 j) (by go_simp) hb1
    replace k2 := G.cell (a := ⟨w.heap.size + 1, 0, none⟩) (v := .int .i64 m) (by go_simp) hb1
    replace k3 := G.cell (a := ⟨w.heap.size + 1, 1, none⟩) (v := .int .i64 i) (by go_simp) hb1
    replace lt0 := cell_lt k0
    replace lt1 := cell_lt k1
    replace lt2 := cell_lt k2
    replace lt3 := cell_lt k3
    have hbw : Below w.heap.size w w1 := by repeat (first | with_reducible assumption | with_reducible exact G.refl _ | with_reducible refine G.drew ?_ | with_reducible refine G.drewN ?_ _ | with_reducible refine G.alloc ?_ _ | with_reducible refine Below.setCell ?_ (by first | (simp; done) | (simp; omega)) _ | with_reducible refine G.trans ?_ hb12 | with_reducible refine G.trans ?_ hb11 | with_reducible refine G.trans ?_ hb10 | with_reducible refine G.trans ?_ hb9 | with_reducible refine G.trans ?_ hb8 | with_reducible refine G.trans ?_ hb7 | with_reducible refine G.trans ?_ hb6 | with_reducible refine G.trans ?_ hb5 | with_reducible refine G.trans ?_ hb4 | with_reducible refine G.trans ?_ hb3 | with_reducible refine G.trans ?_ hb2 | with_reducible refine G.trans ?_ hb1 | with_reducible refine G.trans ?_ hb | assumption)
    clear hb1
    go_wp2_with fail
    refine (P1.out _).mono ?_
    rintro e w2 ⟨rfl, hb2⟩
    replace k0 := G.cell (a := ⟨w.heap.size, 0, none⟩) (v := .int .i64 n) (by go_simp) hb2
    replace k1 := G.cell (a := ⟨w.heap.size, 1, none⟩) (v := .int .i64 j) (by go_simp) hb2
    replace k2 := G.cell (a := ⟨w.heap.size + 1, 0, none⟩) (v := .int .i64 m) (by go_simp) hb2
    replace k3 := G.cell (a := ⟨w.heap.size + 1, 1, none⟩) (v := .int .i64 i) (by go_simp) hb2
    replace lt0 := cell_lt k0
    replace lt1 := cell_lt k1
    replace lt2 := cell_lt k2
    replace lt3 := cell_lt k3
    go_wp2_with fail
    refine (P2.out _).mono ?_
    rintro e w3 ⟨rfl, hb3⟩
    replace hbw := G.trans (G.trans hbw hb2) hb3
    go_wp2_with fail
    refine (cmp_any _ _ _).mono ?_
    rintro e w4 ⟨rfl, rfl⟩
    go_wp2_with fail
    refine (cmp_any _ _ _).mono ?_
    rintro e w4 ⟨rfl, rfl⟩
    go_wp2_with fail
    refine (or_any _ 2 _ [cmpI W W', cmpI R R'] _ ?_ (by simp [maxLen])).mono ?_
    · exact Sl.new' (by simp) (by simp) (by simp)
    rintro e w4 ⟨rfl, rfl⟩
    rw [hc'.out]
    go_wp2_with fail
    go_ret2
    exact ⟨by rw [hr.out]; rfl, by repeat (first | with_reducible assumption | with_reducible exact G.refl _ | with_reducible refine G.drew ?_ | with_reducible refine G.drewN ?_ _ | with_reducible refine G.alloc ?_ _ | with_reducible refine Below.setCell ?_ (by first | (simp; done) | (simp; omega)) _ | with_reducible refine G.trans ?_ hb12 | with_reducible refine G.trans ?_ hb11 | with_reducible refine G.trans ?_ hb10 | with_reducible refine G.trans ?_ hb9 | with_reducible refine G.trans ?_ hb8 | with_reducible refine G.trans ?_ hb7 | with_reducible refine G.trans ?_ hb6 | with_reducible refine G.trans ?_ hb5 | with_reducible refine G.trans ?_ hb4 | with_reducible refine G.trans ?_ hb3 | with_reducible refine G.trans ?_ hb2 | with_reducible refine G.trans ?_ hb1 | with_reducible refine G.trans ?_ hb | assumption)⟩
  · rw [if_neg h] at C
    have hr : Hid (cmpN n s m t = (0, 2)) := if_neg h
    clear h h1 h2
    go_enter Tryd.func36, Tryd.ntmps36
    go_wp2_with fail
    refine (C.out _ _ _ ?_).mono ?_
    · exact NumsAt.two (by simp)
    rintro e w1 ⟨rfl, hb1⟩
    go_wp2_with fail
    go_ret2
    exact ⟨by rw [hr.out]; rfl, by repeat (first | with_reducible assumption | with_reducible exact G.refl _ | with_reducible refine G.drew ?_ | with_reducible refine G.drewN ?_ _ | with_reducible refine G.alloc ?_ _ | with_reducible refine Below.setCell ?_ (by first | (simp; done) | (simp; omega)) _ | with_reducible refine G.trans ?_ hb12 | with_reducible refine G.trans ?_ hb11 | with_reducible refine G.trans ?_ hb10 | with_reducible refine G.trans ?_ hb9 | with_reducible refine G.trans ?_ hb8 | with_reducible refine G.trans ?_ hb7 | with_reducible refine G.trans ?_ hb6 | with_reducible refine G.trans ?_ hb5 | with_reducible refine G.trans ?_ hb4 | with_reducible refine G.trans ?_ hb3 | with_reducible refine G.trans ?_ hb2 | with_reducible refine G.trans ?_ hb1 | with_reducible refine G.trans ?_ hb | assumption)⟩
end Go.Proofs.YtoipapcbngknfaaDoor
