/- What decimal.divide computes. -/
import Derived.Test.YtoipapcbngknfaaDoorDec4
import Derived.Test.YtoipapcbngknfaaDoorDivM
namespace Go.Proofs.YtoipapcbngknfaaDoor
set_option linter.unusedVariables false
set_option linter.unnecessarySimpa false
set_option linter.unusedSimpArgs false
open Go.RowKit

/-- R is the quotient V, or both are too great. -/
def DivR (V R : Int) : Prop := 0 ≤ R ∧ R ≤ 99999999999999999 ∧ (R = V ∨ (999999999999999 < R ∧ 999999999999999 < V))
theorem divR_end {X Y : Int} {j U : Nat} {q r : Int} (hX : 0 ≤ X) (hY : 0 < Y) (hj : j ≤ U) (hq : q = X * p10 j / Y) (hr : r = X * p10 j % Y) (h0 : 0 ≤ q) (hm : q ≤ 9999999999999999) (hend : j = U ∨ 999999999999999 < q) :
    DivR (rnd (X * p10 U) Y) (if Y < 2 * r ∨ (2 * r = Y ∧ q % 2 = 1) then q + 1 else q) := by
  have hR : (if Y < 2 * r ∨ (2 * r = Y ∧ q % 2 = 1) then q + 1 else q) = rnd (X * p10 j) Y := by rw [hq, hr]; rfl
  have hb := rnd_bd (X := X * p10 j) (Y := Y) (Int.mul_nonneg hX (Int.le_of_lt (p10_pos j))) hY
  rw [hR]
  rw [← hq] at hb
  refine ⟨by omega, by omega, ?_⟩
  rcases hend with rfl | h
  · exact .inl rfl
  · exact .inr ⟨by omega, divide_great hX hY hj (by rw [← hq]; exact h)⟩
set_option maxRecDepth 20000 in set_option maxHeartbeats 1000000 in
theorem divide_any (a b e : Int) (w : World) (ha0 : -999999999999999 ≤ a) (ha1 : a ≤ 999999999999999) (hb0 : -999999999999999 ≤ b) (hb1 : b ≤ 999999999999999) (hbn : b ≠ 0) (he0 : -12 ≤ e) (he1 : e ≤ 24) :
    Calls Tryd.prog 42 #[.int .i64 a, .int .i64 b, .int .i64 e] w fun e' w' => ∃ R, e' = .returned (.int .i64 R) ∧ DivR (rnd (max a (-a) * p10 e.toNat) (max b (-b) * p10 (-e).toNat)) R ∧ Below w.heap.size w w' := by
  have A1 := Lib.hid (fun w => abs_any a w (neg_in (by omega) (by omega)))
  have A2 := Lib.hid (fun w => abs_any b w (neg_in (by omega) (by omega)))
  have hA : 0 ≤ max a (-a) ∧ max a (-a) ≤ 999999999999999 := by omega
  have hB : 1 ≤ max b (-b) ∧ max b (-b) ≤ 999999999999999 := by omega
  generalize max a (-a) = X at *
  generalize max b (-b) = Y at *
  obtain ⟨hA0, hA1⟩ := hA
  obtain ⟨hB0, hB1⟩ := hB
  clear ha0 ha1 hb0 hb1 hbn
  generalize hV0 : rnd (X * p10 e.toNat) (Y * p10 (-e).toNat) = V
  have hV1 := Lib.hid hV0
  clear hV0
  go_enter Tryd.func42, Tryd.ntmps42
  go_wp2_with fail
  refine (A1.out _).mono ?_
  rintro e1 w1 ⟨rfl, rfl⟩
  go_wp2_with fail
  refine (A2.out _).mono ?_
  rintro e1 w1 ⟨rfl, rfl⟩
  go_wp2_with fail
  go_loop [1, 2] (fun bv ev => ∃ (k : Nat) (Z E : Int), bv = .int .i64 Z ∧ ev = .int .i64 E ∧ Hid (Z = Y * p10 k) ∧ Hid (E = e + k) ∧ Hid (k = 0 ∨ E ≤ 0) ∧ 1 ≤ Z ∧ Z ≤ 39999999999999960 ∧ -12 ≤ E ∧ E ≤ 24) (fun _ ev => (-(intOf ev)).toNat)
  case atStart => exact ⟨0, Y, e, rfl, rfl, by unfold Hid; rw [p10_zero, Int.mul_one], by unfold Hid; omega, .inl rfl, by omega, by omega, he0, he1⟩
  case round =>
    obtain ⟨k, Z, E, rfl, rfl, hZ, hE, hk, hZ0, hZ1, hE0, hE1⟩ := hrel
    by_cases hneg : E < 0
    · by_cases hsm : Z ≤ 3999999999999996
      · have hZ' : Hid (Z * 10 = Y * p10 (k + 1)) := by unfold Hid; rw [hZ.out, p10_step]
        have hE' : Hid (E + 1 = e + (k + 1 : Nat)) := by have := hE.out; unfold Hid; omega
        go_wp2
        go_round
        case rel => exact ⟨k + 1, Z * 10, E + 1, by go_num, by go_num, hZ', hE', .inr (by omega), by omega, by omega, by omega, by omega⟩
        case measure => first | (simp [intOf]; done) | (simp [intOf]; omega)
      · have hV : Hid (V = 0) := by
          have h1 := hE.out
          have h2 := hZ.out
          unfold Hid
          rw [← hV1.out, show e.toNat = 0 by omega, p10_zero, Int.mul_one]
          exact divide_small (k := k) hA0 (by omega) hA1 (by omega) (by omega)
        go_wp2
        go_ret
        exact ⟨0, rfl, by rw [hV.out]; exact ⟨by omega, by omega, .inl rfl⟩, by repeat (first | with_reducible assumption | with_reducible exact G.refl _ | with_reducible refine G.drew ?_ | with_reducible refine G.drewN ?_ _ | with_reducible refine G.alloc ?_ _ | with_reducible refine Below.setCell ?_ (by first | (simp; done) | (simp; omega)) _ | with_reducible refine G.trans ?_ hb12 | with_reducible refine G.trans ?_ hb11 | with_reducible refine G.trans ?_ hb10 | with_reducible refine G.trans ?_ hb9 | with_reducible refine G.trans ?_ hb8 | with_reducible refine G.trans ?_ hb7 | with_reducible refine G.trans ?_ hb6 | with_reducible refine G.trans ?_ hb5 | with_reducible refine G.trans ?_ hb4 | with_reducible refine G.trans ?_ hb3 | with_reducible refine G.trans ?_ hb2 | with_reducible refine G.trans ?_ hb1 | with_reducible refine G.trans ?_ hb | assumption)⟩
    · have hkk : k = (-e).toNat ∧ E = e.toNat := by have h1 := hE.out; have h2 := hk.out; omega
      obtain ⟨rfl, rfl⟩ := hkk
      have hZp : Hid (Z = Y * p10 (-e).toNat) := hZ
      have hV2 : Hid (rnd (X * p10 e.toNat) Z = V) := by unfold Hid; rw [hZp.out]; exact hV1.out
      clear hV1
      generalize e.toNat = U at *
      have hZn : ¬ Z = 0 := by omega
      have b1 := Int.ediv_nonneg hA0 (show 0 ≤ Z by omega)
      have b2 := Int.ediv_le_self Z hA0
      have b3 := Int.emod_nonneg X hZn
      have b4 := Int.emod_lt_of_pos X (show 0 < Z by omega)
      have t1 : X.tdiv Z = X / Z := Int.tdiv_eq_ediv_of_nonneg hA0
      have t2 : X.tmod Z = X % Z := Int.tmod_eq_emod_of_nonneg hA0
      have q1 : IntKind.i64.wrap (X.tdiv Z) = X / Z := by rw [t1]; exact IntWalk.i64_in _ (by omega)
      have q2 : IntKind.i64.wrap (X.tmod Z) = X % Z := by rw [t2]; exact IntWalk.i64_in _ (by omega)
      obtain ⟨q, hq⟩ : ∃ q, X / Z = q := ⟨_, rfl⟩
      obtain ⟨r, hr⟩ : ∃ r, X % Z = r := ⟨_, rfl⟩
      rw [hq] at q1 b1 b2 t1
      rw [hr] at q2 b3 b4 t2
      have hq' : Hid (q = X * p10 0 / Z) := by unfold Hid; rw [p10_zero, Int.mul_one, hq]
      have hr' : Hid (r = X * p10 0 % Z) := by unfold Hid; rw [p10_zero, Int.mul_one, hr]
      clear hq hr hE hk hZ hZp he0 he1
      go_wp2_with fail
      refine wp_region_ord [(0, 1), (1, 1), (2, 1), (3, 1), (4, 1), (5, 1), (6, 1), (7, 1)] [] 5 (by kernel_rfl) (by decide +kernel) ?_
      simp only [pickO, List.getElem?_cons_succ, List.getElem?_cons_zero]
      intro w0 hG
      (repeat ((first | (with_reducible refine ord_q1 ?_) | (with_reducible refine ord_q0 ?_)); intro K hK; first | (refine Or.inr ⟨?_, ?_⟩; (focus (go_simp; first | done | (simp [undef]; done))); go_simp; (with_reducible refine hK _ ?_); clear hK K) | (refine Or.inl ⟨?_, ?_⟩; (focus (go_simp; done)); apply Exists.intro; refine And.intro ?_ ?_; (focus (first | (intro wq hq; obtain ⟨hcq, hfq⟩ := G.old hq; go_simp; (first | done | exact rfl); done) | (intro wq; go_simp; (first | done | exact rfl); done))); go_simp; (with_reducible refine hK _ ?_); clear hK K) | fail))
      (with_reducible refine ord_nil ?_)
      have hbw := hG.b
      clear hG
      go_wp2_with fail
      go_loopw [2, 7, 8] (fun ev qv rv wr => ∃ (j : Nat) (q r E : Int), ev = .int .i64 E ∧ qv = .int .i64 q ∧ rv = .int .i64 r ∧ Hid (q = X * p10 j / Z) ∧ Hid (r = X * p10 j % Z) ∧ Hid (E = (U : Int) - j) ∧ Hid (j ≤ U) ∧ 0 ≤ E ∧ E ≤ 24 ∧ 0 ≤ q ∧ q ≤ 9999999999999999 ∧ 0 ≤ r ∧ r < Z ∧ Below w.heap.size w wr) (fun ev _ _ _ => (intOf ev).toNat)
      case atStart => exact ⟨0, q, r, U, rfl, by first | rfl | rw [t1] | rw [show IntKind.i64.wrap q = q from IntWalk.i64_in _ (by omega)], by first | rfl | rw [t2], hq', hr', by unfold Hid; omega, by unfold Hid; omega, by omega, by omega, by omega, by omega, b3, b4, hbw⟩
      case round =>
        obtain ⟨j, q, r, E, rfl, rfl, rfl, hqj, hrj, hEj, hjU, hE2, hE3, hq0, hq9, hr0, hrZ, hbr⟩ := hrel
        by_cases hEp : 0 < E
        · by_cases hqM : q ≤ 999999999999999
          · have hZp : 0 < Z := by omega
            have st := divide_round (a := X) j hZp
            rw [← hqj.out, ← hrj.out] at st
            have u0 := Int.ediv_nonneg (show 0 ≤ r * 10 by omega) (show 0 ≤ Z by omega)
            have u9 : r * 10 / Z < 10 := Int.ediv_lt_of_lt_mul hZp (by omega)
            have v0 := Int.emod_nonneg (r * 10) (show Z ≠ 0 by omega)
            have v1 := Int.emod_lt_of_pos (r * 10) hZp
            have e1 : IntKind.i64.wrap (r * 10) = r * 10 := IntWalk.i64_in _ (by omega)
            have e2 : IntKind.i64.wrap ((r * 10).tdiv Z) = r * 10 / Z := by rw [Int.tdiv_eq_ediv_of_nonneg (by omega)]; exact IntWalk.i64_in _ (by omega)
            have e3 : (r * 10).tmod Z = r * 10 % Z := Int.tmod_eq_emod_of_nonneg (by omega)
            obtain ⟨u, hu⟩ : ∃ u, r * 10 / Z = u := ⟨_, rfl⟩
            obtain ⟨v, hv⟩ : ∃ v, r * 10 % Z = v := ⟨_, rfl⟩
            rw [hu] at st u0 u9 e2
            rw [hv] at st v0 v1 e3
            have e4 : IntKind.i64.wrap (10 * q) = 10 * q := IntWalk.i64_in _ (by omega)
            have e5 : IntKind.i64.wrap (10 * q + u) = 10 * q + u := IntWalk.i64_in _ (by omega)
            have s1 : Hid (10 * q + u = X * p10 (j + 1) / Z) := st.1.symm
            have s2 : Hid (v = X * p10 (j + 1) % Z) := st.2.symm
            have s3 : Hid (E - 1 = (U : Int) - (j + 1 : Nat)) := by have := hEj.out; unfold Hid; omega
            have s4 : Hid (j + 1 ≤ U) := by have := hEj.out; unfold Hid; omega
            have hZn' : ¬ Z = 0 := by omega
            clear st hu hv hqj hrj hEj hjU hq' hr'
            go_wp2_with fail
            refine wp_region_ord [(0, 1), (1, 1), (2, 1), (3, 1), (4, 1), (5, 1), (6, 1), (7, 1), (8, 1), (9, 1), (10, 1)] [] 5 (by kernel_rfl) (by decide +kernel) ?_
            simp only [pickO, List.getElem?_cons_succ, List.getElem?_cons_zero]
            intro w0 hG
            (repeat ((first | (with_reducible refine ord_q1 ?_) | (with_reducible refine ord_q0 ?_)); intro K hK; first | (refine Or.inr ⟨?_, ?_⟩; (focus (go_simp; first | done | (simp [undef]; done))); go_simp; (with_reducible refine hK _ ?_); clear hK K) | (refine Or.inl ⟨?_, ?_⟩; (focus (go_simp; done)); apply Exists.intro; refine And.intro ?_ ?_; (focus (first | (intro wq hq; obtain ⟨hcq, hfq⟩ := G.old hq; go_simp; (first | done | exact rfl); done) | (intro wq; go_simp; (first | done | exact rfl); done))); go_simp; (with_reducible refine hK _ ?_); clear hK K) | fail))
            (with_reducible refine ord_nil ?_)
            have hbg := G.trans hbr hG.b
            clear hG
            go_wp2_with fail
            go_roundw
            case rel => exact ⟨j + 1, 10 * q + u, v, E - 1, by go_num, rfl, rfl, s1, s2, s3, s4, by omega, by omega, by omega, by omega, by omega, by omega, hbg⟩
            case measure => first | (simp [intOf]; done) | (simp [intOf]; omega)
          · have hqg : 999999999999999 < q := by omega
            have e3 : IntKind.i64.wrap (2 * r) = 2 * r := IntWalk.i64_in _ (by omega)
            have e4 : q.tmod 2 = q % 2 := Int.tmod_eq_emod_of_nonneg hq0
            have e5 : IntKind.i64.wrap (q + 1) = q + 1 := IntWalk.i64_in _ (by omega)
            have fin := divR_end hA0 (show 0 < Z by omega) hjU.out hqj.out hrj.out hq0 hq9 (.inr hqg)
            rw [hV2.out] at fin
            by_cases c1 : Z < 2 * r
            · rw [if_pos (.inl c1)] at fin
              replace fin := Lib.hid fin
              clear hqj hrj hEj hjU
              go_wp2_with fail
              go_ret
              exact ⟨q + 1, rfl, fin.out, hbr⟩
            · have hodd : q % 2 = 1 ∨ q % 2 = 0 := by omega
              by_cases c2 : 2 * r = Z
              · skip
                rcases hodd with c3 | c3
                · rw [if_pos (.inr ⟨c2, c3⟩)] at fin
                  replace fin := Lib.hid fin
                  rw [c3] at e4
                  clear hqj hrj hEj hjU c3
                  go_wp2_with fail
                  go_ret
                  exact ⟨q + 1, rfl, fin.out, hbr⟩
                · rw [if_neg (by omega)] at fin
                  replace fin := Lib.hid fin
                  rw [c3] at e4
                  clear hqj hrj hEj hjU c3
                  go_wp2_with fail
                  go_ret
                  exact ⟨q, rfl, fin.out, hbr⟩
              · skip
                rw [if_neg (by omega)] at fin
                replace fin := Lib.hid fin
                clear hqj hrj hEj hjU hodd
                go_wp2_with fail
                go_ret
                exact ⟨q, rfl, fin.out, hbr⟩
        · have hjU' : j = U := by have := hEj.out; have := hjU.out; omega
          have e3 : IntKind.i64.wrap (2 * r) = 2 * r := IntWalk.i64_in _ (by omega)
          have e4 : q.tmod 2 = q % 2 := Int.tmod_eq_emod_of_nonneg hq0
          have e5 : IntKind.i64.wrap (q + 1) = q + 1 := IntWalk.i64_in _ (by omega)
          have fin := divR_end hA0 (show 0 < Z by omega) hjU.out hqj.out hrj.out hq0 hq9 (.inl hjU')
          rw [hV2.out] at fin
          by_cases c1 : Z < 2 * r
          · rw [if_pos (.inl c1)] at fin
            replace fin := Lib.hid fin
            clear hqj hrj hEj hjU
            go_wp2_with fail
            go_ret
            exact ⟨q + 1, rfl, fin.out, hbr⟩
          · have hodd : q % 2 = 1 ∨ q % 2 = 0 := by omega
            by_cases c2 : 2 * r = Z
            · skip
              rcases hodd with c3 | c3
              · rw [if_pos (.inr ⟨c2, c3⟩)] at fin
                replace fin := Lib.hid fin
                rw [c3] at e4
                clear hqj hrj hEj hjU c3
                go_wp2_with fail
                go_ret
                exact ⟨q + 1, rfl, fin.out, hbr⟩
              · rw [if_neg (by omega)] at fin
                replace fin := Lib.hid fin
                rw [c3] at e4
                clear hqj hrj hEj hjU c3
                go_wp2_with fail
                go_ret
                exact ⟨q, rfl, fin.out, hbr⟩
            · skip
              rw [if_neg (by omega)] at fin
              replace fin := Lib.hid fin
              clear hqj hrj hEj hjU hodd
              go_wp2_with fail
              go_ret
              exact ⟨q, rfl, fin.out, hbr⟩
end Go.Proofs.YtoipapcbngknfaaDoor
