/- What decimal.total, Add, Sub, Mul and Sum compute. -/
import Derived.Test.YtoipapcbngknfaaDoorDec2
namespace Go.Proofs.YtoipapcbngknfaaDoor
set_option linter.unusedVariables false
set_option linter.unnecessarySimpa false
set_option linter.unusedSimpArgs false
open Go.RowKit

theorem total_sum {L : List (Int × Int)} {sc : Nat} (hsc : sc ≤ 12) (hlen : L.length ≤ 256) (h : ∀ p ∈ L, okN p.1 p.2 = true ∧ p.2.toNat ≤ sc) :
    ∀ W R : Int, W = sumI (L.map wholeP) → R = sumI (L.map restP) →
      (W + R.tdiv 1000000000000) * 1000000000000 + R.tmod 1000000000000 = sumAt L sc * p10 (12 - sc) := by
  rintro W R rfl rfl
  rw [← sum_parts hsc h, Int.add_mul]
  have := tparts (sumI (L.map restP)) 1000000000000
  omega

set_option maxRecDepth 20000 in set_option maxHeartbeats 1000000 in
theorem total_any (A : Option Addr) (n c : Nat) (L : List (Int × Int)) (sc : Nat) (w : World) (hx : NumsAt w A n L) (hn : n ≤ 256) (hsc : sc ≤ 12) (hok : ∀ p ∈ L, okN p.1 p.2 = true ∧ p.2.toNat ≤ sc) :
    Calls Tryd.prog 49 #[.slice A n c, .int .i64 sc] w (RetF (fitN (sumAt L sc) sc) w) := by
  have hl := Lib.hid hx.2
  have hok' := Lib.hid hok
  have bW := Lib.hid (sum_bd (by omega) (whole_bd fun p hp => (hok p hp).1))
  have bR := Lib.hid (sum_bd (by omega) (rest_bd fun p hp => (hok p hp).1))
  have hT := Lib.hid (total_sum hsc (by rw [hx.2]; exact hn) hok)
  have T12 := Lib.hid (fun w => ten_any 12 w (by omega))
  have Tsc := Lib.hid (fun w => ten_any sc w hsc)
  have Tsd := Lib.hid (fun w => ten_any (12 - sc) w (by omega))
  have hP := p10_pos sc
  have hQ := p10_pos (12 - sc)
  have hPQ : Hid (p10 sc * p10 (12 - sc) = 1000000000000) := by unfold Hid; rw [← p10_add, show sc + (12 - sc) = 12 by omega]; decide
  have h12 : Hid (p10 12 = 1000000000000) := by unfold Hid; decide
  rw [h12.out] at T12
  have hs12 : IntKind.i64.wrap (12 - (sc : Int)) = ((12 - sc : Nat) : Int) := by rw [IntWalk.i64_in _ (by omega)]; omega
  generalize p10 sc = P at *
  generalize p10 (12 - sc) = Q at *
  clear hok h12
  go_enter Tryd.func49, Tryd.ntmps49
  go_wp2_with fail
  refine (T12.out _).mono ?_
  rintro e w1 ⟨rfl, hb1⟩
  
  replace k0 := G.cell (a := ⟨w.heap.size, 0, none⟩) (v := .int .i64 0) (by go_simp) hb1
  replace k1 := G.cell (a := ⟨w.heap.size, 1, none⟩) (v := .int .i64 0) (by go_simp) hb1
  replace lt0 := cell_lt k0
  replace lt1 := cell_lt k1
  have hbw1 : Below w.heap.size w w1 := by repeat (first | with_reducible assumption | with_reducible exact G.refl _ | with_reducible refine G.drew ?_ | with_reducible refine G.drewN ?_ _ | with_reducible refine G.alloc ?_ _ | with_reducible refine Below.setCell ?_ (by first | (simp; done) | (simp; omega)) _ | with_reducible refine G.trans ?_ hb12 | with_reducible refine G.trans ?_ hb11 | with_reducible refine G.trans ?_ hb10 | with_reducible refine G.trans ?_ hb9 | with_reducible refine G.trans ?_ hb8 | with_reducible refine G.trans ?_ hb7 | with_reducible refine G.trans ?_ hb6 | with_reducible refine G.trans ?_ hb5 | with_reducible refine G.trans ?_ hb4 | with_reducible refine G.trans ?_ hb3 | with_reducible refine G.trans ?_ hb2 | with_reducible refine G.trans ?_ hb1 | with_reducible refine G.trans ?_ hb | assumption)
  have hx1 := hx.grow hbw1
  obtain ⟨hc1, hf1⟩ := G.old hb1
  have z0 : w1.frozen? ⟨w.heap.size, 0, none⟩ = false := (hf1 _ _ (by simp)).trans (by go_simp)
  have z1 : w1.frozen? ⟨w.heap.size, 1, none⟩ = false := (hf1 _ _ (by simp)).trans (by go_simp)
  clear hb1 hx hc1 hf1
  go_wp2_with fail
  go_loopw [7, 8, 16] (fun a b i wr => ∃ k : Nat, k ≤ n ∧ i = .int .i64 k ∧ a = .int .i64 (sumI ((L.take k).map wholeP)) ∧ b = .int .i64 (sumI ((L.take k).map restP)) ∧ Below w1.heap.size w1 wr) (fun _ _ i _ => n - (intOf i).toNat)
  case atStart => exact ⟨0, Nat.zero_le _, rfl, rfl, rfl, G.refl _⟩
  case round =>
    obtain ⟨k, hk, rfl, rfl, rfl, hbr⟩ := hrel
    by_cases hlt : k < n
    · obtain ⟨b, off, x, s, rfl, hbx, hxk, hc1, hc2⟩ := (hx1.grow hbr).at_ hlt
      have hp := hok'.out (x, s) (List.mem_of_getElem? hxk)
      obtain ⟨j, rfl, hj, hx0, hx9⟩ := okN_nat hp.1
      have sW : Hid (sumI ((L.take (k + 1)).map wholeP) = sumI ((L.take k).map wholeP) + x.tdiv (p10 j)) := sum_snoc wholeP hxk
      have sR : Hid (sumI ((L.take (k + 1)).map restP) = sumI ((L.take k).map restP) + x.tmod (p10 j) * p10 (12 - j)) := sum_snoc restP hxk
      have b1 := bW.out k
      have b2 := bW.out (k + 1)
      have b3 := bR.out k
      have b4 := bR.out (k + 1)
      rw [sW.out] at b2
      rw [sR.out] at b4
      have PA := Lib.hid (fun w => parts_any x j w hj hx0 hx9)
      clear hp hx0 hx9 hj hxk
      generalize x.tdiv (p10 j) = u at *
      generalize x.tmod (p10 j) * p10 (12 - j) = v at *
      generalize sumI ((L.take k).map wholeP) = W at *
      generalize sumI ((L.take k).map restP) = R at *
      have b5 : -9223372036854775808 ≤ W + u ∧ W + u ≤ 9223372036854775807 := by omega
      have b6 : -9223372036854775808 ≤ R + v ∧ R + v ≤ 9223372036854775807 := by omega
      have q1 : IntKind.i64.wrap (W + u) = W + u := IntWalk.i64_in _ (by omega)
      have q2 : IntKind.i64.wrap (R + v) = R + v := IntWalk.i64_in _ (by omega)
      clear b1 b2 b3 b4 b5 b6
      go_wp2_with (go_at_call 52; refine (PA.out _).mono ?_; rintro e w2 ⟨rfl, hb2⟩)
      go_roundw
      case rel => exact ⟨k + 1, by omega, by go_num, by rw [sW.out], by rw [sR.out], by repeat (first | with_reducible assumption | with_reducible exact G.refl _ | with_reducible refine G.drew ?_ | with_reducible refine G.drewN ?_ _ | with_reducible refine G.alloc ?_ _ | with_reducible refine Below.setCell ?_ (by first | (simp; done) | (simp; omega)) _ | with_reducible refine G.trans ?_ hb12 | with_reducible refine G.trans ?_ hb11 | with_reducible refine G.trans ?_ hb10 | with_reducible refine G.trans ?_ hb9 | with_reducible refine G.trans ?_ hb8 | with_reducible refine G.trans ?_ hb7 | with_reducible refine G.trans ?_ hb6 | with_reducible refine G.trans ?_ hb5 | with_reducible refine G.trans ?_ hb4 | with_reducible refine G.trans ?_ hb3 | with_reducible refine G.trans ?_ hb2 | with_reducible refine G.trans ?_ hb1 | with_reducible refine G.trans ?_ hb | assumption)⟩
      case measure => simp [intOf]; omega
    · have hkn : k = n := by omega
      subst hkn
      have eW : L.take k = L := List.take_of_length_le (by have := hl.out; omega)
      have b1 := bW.out k
      have b3 := bR.out k
      rw [eW] at b1 b3 ⊢
      have hV := hT.out _ _ rfl rfl
      generalize sumI (L.map wholeP) = W at *
      generalize sumI (L.map restP) = R at *
      have bq := tdiv_bd (n := R) (P := 1000000000000) (M := 1000000000000 * k) (by omega) (by omega) (by omega)
      have br := tmod_bd (n := R) (P := 1000000000000) (by omega)
      have q1 : IntKind.i64.wrap (R.tdiv 1000000000000) = R.tdiv 1000000000000 := IntWalk.i64_in _ (by omega)
      have q2 : IntKind.i64.wrap (R.tmod 1000000000000) = R.tmod 1000000000000 := IntWalk.i64_in _ (by omega)
      have q3 : IntKind.i64.wrap (W + R.tdiv 1000000000000) = W + R.tdiv 1000000000000 := IntWalk.i64_in _ (by omega)
      have b5 : -300000000000000000 ≤ W + R.tdiv 1000000000000 ∧ W + R.tdiv 1000000000000 ≤ 300000000000000000 := by omega
      have hu0 : ¬ (1000000000000 : Int) = 0 := by omega
      obtain ⟨br0, br1, _, _⟩ := br
      clear b1 b3 bq bW bR hT
      generalize hD : R.tdiv 1000000000000 = D at *
      generalize hE : R.tmod 1000000000000 = E at *
      generalize hF : W + D = F at *
      have hD' := Lib.hid hD; have hE' := Lib.hid hE; have hF' := Lib.hid hF
      have hadj := adj_eq (W := F) br0 br1
      have hlaw := total_law (V := 0) hP hQ hPQ.out (hadj.1.trans hV) hadj.2.1 hadj.2.2.1 hadj.2.2.2.1 hadj.2.2.2.2
      have hb8 : -300000000000000001 ≤ adj1 F E ∧ adj1 F E ≤ 300000000000000001 := by unfold adj1; split <;> (try split) <;> omega
      have hb9 := hadj.2.1
      have hb10 := hadj.2.2.1
      generalize hG1 : adj1 F E = G1 at *
      generalize hG2 : adj2 F E = G2 at *
      generalize hS : sumAt L sc = S at *
      have w1' : IntKind.i64.wrap (R.tdiv 1000000000000) = D := by rw [hD'.out]; exact q1
      have w2' : IntKind.i64.wrap (R.tmod 1000000000000) = E := by rw [hE'.out]; exact q2
      have w3' : IntKind.i64.wrap (W + D) = F := by rw [hF'.out]; exact q3
      have w4' : R.tmod 1000000000000 = E := hE'.out
      clear q1 q2 q3 hD hE hF
      go_wp2_with fail
      refine wp_region_ord [(0, 1), (1, 1), (2, 1), (3, 1), (4, 1), (5, 1), (6, 1), (7, 1), (8, 1), (9, 1)] [] 5 (by kernel_rfl) (by decide +kernel) ?_
      simp only [pickO, List.getElem?_cons_succ, List.getElem?_cons_zero]
      intro w0 hG
      (repeat ((first | (with_reducible refine ord_q1 ?_) | (with_reducible refine ord_q0 ?_)); intro K hK; first | (refine Or.inr ⟨?_, ?_⟩; (focus (go_simp; first | done | (simp [undef]; done))); go_simp; (with_reducible refine hK _ ?_); clear hK K) | (refine Or.inl ⟨?_, ?_⟩; (focus (go_simp; done)); apply Exists.intro; refine And.intro ?_ ?_; (focus (first | (intro wq hq; obtain ⟨hcq, hfq⟩ := G.old hq; go_simp; (first | done | exact rfl); done) | (intro wq; go_simp; (first | done | exact rfl); done))); go_simp; (with_reducible refine hK _ ?_); clear hK K) | fail))
      (with_reducible refine ord_nil ?_)
      obtain ⟨hl1, hl2⟩ := hlaw
      have hQ0 : ¬ Q = 0 := by omega
      have hP0 : ¬ P = 0 := by omega
      have qM := tdiv_bd (n := 999999999999999) (M := 999999999999999) hP (by omega) (by omega)
      have qm : IntKind.i64.wrap ((999999999999999 : Int).tdiv P) = (999999999999999 : Int).tdiv P := IntWalk.i64_in _ (by omega)
      obtain ⟨M, hM⟩ : ∃ M, (999999999999999 : Int).tdiv P = M := ⟨_, rfl⟩
      have qm1 : IntKind.i64.wrap ((999999999999999 : Int).tdiv P) = M := by rw [qm, hM]
      have qm2 : (999999999999999 : Int) / P = M := by rw [← hM, Int.tdiv_eq_ediv_of_nonneg (by omega)]
      have qR := tdiv_bd (n := G2) (M := 1000000000000) hQ (by omega) (by omega)
      have A2 := fun w => abs_any G1 w (neg_in (by omega) (by omega))
      rw [hM] at hl1 hl2
      generalize max G1 (-G1) = m at A2 hl1 hl2
      replace A2 := Lib.hid A2
      replace hl1 := Lib.hid hl1
      replace hl2 := Lib.hid hl2
      have hB := G.trans hbr hG.b
      have qa1 : 0 < F ∧ E < 0 → IntKind.i64.wrap (F - 1) = G1 ∧ IntKind.i64.wrap (E + 1000000000000) = G2 := by
        intro h
        have e1 : G1 = F - 1 := by rw [← hG1]; unfold adj1; rw [if_pos h]
        have e2 : G2 = E + 1000000000000 := by rw [← hG2]; unfold adj2; rw [if_pos h]
        exact ⟨by rw [e1]; exact IntWalk.i64_in _ (by omega), by rw [e2]; exact IntWalk.i64_in _ (by omega)⟩
      have qa2 : F < 0 ∧ 0 < E → IntKind.i64.wrap (F + 1) = G1 ∧ IntKind.i64.wrap (E - 1000000000000) = G2 := by
        intro h
        have e1 : G1 = F + 1 := by rw [← hG1]; unfold adj1; rw [if_neg (by omega), if_pos h]
        have e2 : G2 = E - 1000000000000 := by rw [← hG2]; unfold adj2; rw [if_neg (by omega), if_pos h]
        exact ⟨by rw [e1]; exact IntWalk.i64_in _ (by omega), by rw [e2]; exact IntWalk.i64_in _ (by omega)⟩
      have qa3 : ¬ (0 < F ∧ E < 0) → ¬ (F < 0 ∧ 0 < E) → G1 = F ∧ G2 = E := by
        intro h h'
        rw [← hG1, ← hG2]
        unfold adj1 adj2
        exact ⟨by rw [if_neg h, if_neg h'], by rw [if_neg h, if_neg h']⟩
      replace qa1 := Lib.hid qa1
      replace qa2 := Lib.hid qa2
      replace qa3 := Lib.hid qa3
      clear hadj hV b5 hb8 hb9 hb10 qM qm hM hG1 hG2 hS br0 br1 w1' w2' w3' hP hQ
      have hcase : (0 < F ∧ E < 0) ∨ (F < 0 ∧ 0 < E) ∨ ((0 < F ∧ ¬ E < 0) ∨ (¬ 0 < F ∧ F < 0 ∧ ¬ 0 < E) ∨ (¬ 0 < F ∧ ¬ F < 0)) := by omega
      rcases hcase with h | h | h
      · obtain ⟨ha, hb⟩ := qa1.out h
        obtain ⟨h1, h2⟩ := h
        go_wp2_with fail
        refine (A2.out _).mono ?_
        rintro e v1 ⟨rfl, rfl⟩
        go_wp2_with fail
        refine (Tsc.out _).mono ?_
        rintro e v2 ⟨rfl, hb2⟩
        replace hB := G.trans hB hb2
        obtain ⟨hcB, hfB⟩ := G.old hB
        by_cases hgt : M < m
        · have hr : Hid (fitN S sc = (0, 0, 14)) := if_neg (hl1.out hgt)
          go_wp2_with fail
          exact bodyPost_ret (v := .tuple #[.agg #[.int .i64 0, .int .i64 0], .int .i64 14]) (by simp only [results, Tryd.results49]; go_simp) rfl ⟨by rw [hr.out], ((hbw1.trans (hB.mono (by omega))).setCell (by simp) _).setCell (by simp) _⟩
        · have hh := hl2.out (by omega)
          have qp : IntKind.i64.wrap (G1 * P) = G1 * P := IntWalk.i64_in _ (by omega)
          have qq : IntKind.i64.wrap (G2.tdiv Q) = G2.tdiv Q := IntWalk.i64_in _ (by omega)
          have qs : IntKind.i64.wrap (G1 * P + G2.tdiv Q) = S := by rw [hh.1]; exact IntWalk.i64_in _ (by omega)
          have F1 := Lib.hid (fun w => fit_any S sc w (by omega) (by omega))
          clear hh qR
          go_wp2_with fail
          refine (Tsc.out _).mono ?_
          rintro e v3 ⟨rfl, hb3⟩
          replace hB := G.trans hB hb3
          go_wp2_with fail
          refine (Tsd.out _).mono ?_
          rintro e v4 ⟨rfl, hb4⟩
          replace hB := G.trans hB hb4
          go_wp2_with fail
          refine (F1.out _).mono ?_
          rintro e v5 ⟨rfl, hb5⟩
          replace hB := G.trans hB hb5
          obtain ⟨hcB, hfB⟩ := G.old hB
          go_wp2_with fail
          exact bodyPost_ret (v := .tuple #[.agg #[.int .i64 (fitN S sc).1, .int .i64 (fitN S sc).2.1], .int .i64 (fitN S sc).2.2]) (by simp only [results, Tryd.results49]; go_simp) rfl ⟨rfl, ((hbw1.trans (hB.mono (by omega))).setCell (by simp) _).setCell (by simp) _⟩
      · obtain ⟨ha, hb⟩ := qa2.out h
        obtain ⟨h1, h2⟩ := h
        have h3 : ¬ 0 < F := by omega
        go_wp2_with fail
        refine (A2.out _).mono ?_
        rintro e v1 ⟨rfl, rfl⟩
        go_wp2_with fail
        refine (Tsc.out _).mono ?_
        rintro e v2 ⟨rfl, hb2⟩
        replace hB := G.trans hB hb2
        obtain ⟨hcB, hfB⟩ := G.old hB
        by_cases hgt : M < m
        · have hr : Hid (fitN S sc = (0, 0, 14)) := if_neg (hl1.out hgt)
          go_wp2_with fail
          exact bodyPost_ret (v := .tuple #[.agg #[.int .i64 0, .int .i64 0], .int .i64 14]) (by simp only [results, Tryd.results49]; go_simp) rfl ⟨by rw [hr.out], ((hbw1.trans (hB.mono (by omega))).setCell (by simp) _).setCell (by simp) _⟩
        · have hh := hl2.out (by omega)
          have qp : IntKind.i64.wrap (G1 * P) = G1 * P := IntWalk.i64_in _ (by omega)
          have qq : IntKind.i64.wrap (G2.tdiv Q) = G2.tdiv Q := IntWalk.i64_in _ (by omega)
          have qs : IntKind.i64.wrap (G1 * P + G2.tdiv Q) = S := by rw [hh.1]; exact IntWalk.i64_in _ (by omega)
          have F1 := Lib.hid (fun w => fit_any S sc w (by omega) (by omega))
          clear hh qR
          go_wp2_with fail
          refine (Tsc.out _).mono ?_
          rintro e v3 ⟨rfl, hb3⟩
          replace hB := G.trans hB hb3
          go_wp2_with fail
          refine (Tsd.out _).mono ?_
          rintro e v4 ⟨rfl, hb4⟩
          replace hB := G.trans hB hb4
          go_wp2_with fail
          refine (F1.out _).mono ?_
          rintro e v5 ⟨rfl, hb5⟩
          replace hB := G.trans hB hb5
          obtain ⟨hcB, hfB⟩ := G.old hB
          go_wp2_with fail
          exact bodyPost_ret (v := .tuple #[.agg #[.int .i64 (fitN S sc).1, .int .i64 (fitN S sc).2.1], .int .i64 (fitN S sc).2.2]) (by simp only [results, Tryd.results49]; go_simp) rfl ⟨rfl, ((hbw1.trans (hB.mono (by omega))).setCell (by simp) _).setCell (by simp) _⟩
      · obtain ⟨rfl, rfl⟩ := qa3.out (by omega) (by omega)
        rcases h with ⟨h1, h2⟩ | ⟨h1, h2, h3⟩ | ⟨h1, h2⟩
        · have h3 : ¬ G1 < 0 := by omega
          go_wp2_with fail
          refine (A2.out _).mono ?_
          rintro e v1 ⟨rfl, rfl⟩
          go_wp2_with fail
          refine (Tsc.out _).mono ?_
          rintro e v2 ⟨rfl, hb2⟩
          replace hB := G.trans hB hb2
          obtain ⟨hcB, hfB⟩ := G.old hB
          by_cases hgt : M < m
          · have hr : Hid (fitN S sc = (0, 0, 14)) := if_neg (hl1.out hgt)
            go_wp2_with fail
            exact bodyPost_ret (v := .tuple #[.agg #[.int .i64 0, .int .i64 0], .int .i64 14]) (by simp only [results, Tryd.results49]; go_simp) rfl ⟨by rw [hr.out], ((hbw1.trans (hB.mono (by omega))).setCell (by simp) _).setCell (by simp) _⟩
          · have hh := hl2.out (by omega)
            have qp : IntKind.i64.wrap (G1 * P) = G1 * P := IntWalk.i64_in _ (by omega)
            have qq : IntKind.i64.wrap (G2.tdiv Q) = G2.tdiv Q := IntWalk.i64_in _ (by omega)
            have qs : IntKind.i64.wrap (G1 * P + G2.tdiv Q) = S := by rw [hh.1]; exact IntWalk.i64_in _ (by omega)
            have F1 := Lib.hid (fun w => fit_any S sc w (by omega) (by omega))
            clear hh qR
            go_wp2_with fail
            refine (Tsc.out _).mono ?_
            rintro e v3 ⟨rfl, hb3⟩
            replace hB := G.trans hB hb3
            go_wp2_with fail
            refine (Tsd.out _).mono ?_
            rintro e v4 ⟨rfl, hb4⟩
            replace hB := G.trans hB hb4
            go_wp2_with fail
            refine (F1.out _).mono ?_
            rintro e v5 ⟨rfl, hb5⟩
            replace hB := G.trans hB hb5
            obtain ⟨hcB, hfB⟩ := G.old hB
            go_wp2_with fail
            exact bodyPost_ret (v := .tuple #[.agg #[.int .i64 (fitN S sc).1, .int .i64 (fitN S sc).2.1], .int .i64 (fitN S sc).2.2]) (by simp only [results, Tryd.results49]; go_simp) rfl ⟨rfl, ((hbw1.trans (hB.mono (by omega))).setCell (by simp) _).setCell (by simp) _⟩
        · skip
          go_wp2_with fail
          refine (A2.out _).mono ?_
          rintro e v1 ⟨rfl, rfl⟩
          go_wp2_with fail
          refine (Tsc.out _).mono ?_
          rintro e v2 ⟨rfl, hb2⟩
          replace hB := G.trans hB hb2
          obtain ⟨hcB, hfB⟩ := G.old hB
          by_cases hgt : M < m
          · have hr : Hid (fitN S sc = (0, 0, 14)) := if_neg (hl1.out hgt)
            go_wp2_with fail
            exact bodyPost_ret (v := .tuple #[.agg #[.int .i64 0, .int .i64 0], .int .i64 14]) (by simp only [results, Tryd.results49]; go_simp) rfl ⟨by rw [hr.out], ((hbw1.trans (hB.mono (by omega))).setCell (by simp) _).setCell (by simp) _⟩
          · have hh := hl2.out (by omega)
            have qp : IntKind.i64.wrap (G1 * P) = G1 * P := IntWalk.i64_in _ (by omega)
            have qq : IntKind.i64.wrap (G2.tdiv Q) = G2.tdiv Q := IntWalk.i64_in _ (by omega)
            have qs : IntKind.i64.wrap (G1 * P + G2.tdiv Q) = S := by rw [hh.1]; exact IntWalk.i64_in _ (by omega)
            have F1 := Lib.hid (fun w => fit_any S sc w (by omega) (by omega))
            clear hh qR
            go_wp2_with fail
            refine (Tsc.out _).mono ?_
            rintro e v3 ⟨rfl, hb3⟩
            replace hB := G.trans hB hb3
            go_wp2_with fail
            refine (Tsd.out _).mono ?_
            rintro e v4 ⟨rfl, hb4⟩
            replace hB := G.trans hB hb4
            go_wp2_with fail
            refine (F1.out _).mono ?_
            rintro e v5 ⟨rfl, hb5⟩
            replace hB := G.trans hB hb5
            obtain ⟨hcB, hfB⟩ := G.old hB
            go_wp2_with fail
            exact bodyPost_ret (v := .tuple #[.agg #[.int .i64 (fitN S sc).1, .int .i64 (fitN S sc).2.1], .int .i64 (fitN S sc).2.2]) (by simp only [results, Tryd.results49]; go_simp) rfl ⟨rfl, ((hbw1.trans (hB.mono (by omega))).setCell (by simp) _).setCell (by simp) _⟩
        · skip
          go_wp2_with fail
          refine (A2.out _).mono ?_
          rintro e v1 ⟨rfl, rfl⟩
          go_wp2_with fail
          refine (Tsc.out _).mono ?_
          rintro e v2 ⟨rfl, hb2⟩
          replace hB := G.trans hB hb2
          obtain ⟨hcB, hfB⟩ := G.old hB
          by_cases hgt : M < m
          · have hr : Hid (fitN S sc = (0, 0, 14)) := if_neg (hl1.out hgt)
            go_wp2_with fail
            exact bodyPost_ret (v := .tuple #[.agg #[.int .i64 0, .int .i64 0], .int .i64 14]) (by simp only [results, Tryd.results49]; go_simp) rfl ⟨by rw [hr.out], ((hbw1.trans (hB.mono (by omega))).setCell (by simp) _).setCell (by simp) _⟩
          · have hh := hl2.out (by omega)
            have qp : IntKind.i64.wrap (G1 * P) = G1 * P := IntWalk.i64_in _ (by omega)
            have qq : IntKind.i64.wrap (G2.tdiv Q) = G2.tdiv Q := IntWalk.i64_in _ (by omega)
            have qs : IntKind.i64.wrap (G1 * P + G2.tdiv Q) = S := by rw [hh.1]; exact IntWalk.i64_in _ (by omega)
            have F1 := Lib.hid (fun w => fit_any S sc w (by omega) (by omega))
            clear hh qR
            go_wp2_with fail
            refine (Tsc.out _).mono ?_
            rintro e v3 ⟨rfl, hb3⟩
            replace hB := G.trans hB hb3
            go_wp2_with fail
            refine (Tsd.out _).mono ?_
            rintro e v4 ⟨rfl, hb4⟩
            replace hB := G.trans hB hb4
            go_wp2_with fail
            refine (F1.out _).mono ?_
            rintro e v5 ⟨rfl, hb5⟩
            replace hB := G.trans hB hb5
            obtain ⟨hcB, hfB⟩ := G.old hB
            go_wp2_with fail
            exact bodyPost_ret (v := .tuple #[.agg #[.int .i64 (fitN S sc).1, .int .i64 (fitN S sc).2.1], .int .i64 (fitN S sc).2.2]) (by simp only [results, Tryd.results49]; go_simp) rfl ⟨rfl, ((hbw1.trans (hB.mono (by omega))).setCell (by simp) _).setCell (by simp) _⟩
end Go.Proofs.YtoipapcbngknfaaDoor
