/- What the reference's Order and Compare compute. -/
import Derived.Test.YtoipapcbngknfaaDoorRef6
import Derived.Test.YtoipapcbngknfaaDoorDCmp
namespace Go.Proofs.YtoipapcbngknfaaDoor
set_option linter.unusedVariables false
set_option linter.unnecessarySimpa false
set_option linter.unusedSimpArgs false
open Go.RowKit

theorem order_law (y z : Int) : (sgn y < sgn z → cmpI y z = -1) ∧ (sgn z < sgn y → cmpI y z = 1) ∧ (sgn y = sgn z → sgn y * cmpI (y.natAbs : Int) (z.natAbs : Int) = cmpI y z) := by
  rcases sgn_cases y with ⟨e1, hy⟩ | ⟨e1, hy⟩ | ⟨e1, hy⟩ <;> rcases sgn_cases z with ⟨e2, hz⟩ | ⟨e2, hz⟩ | ⟨e2, hz⟩ <;> rw [e1, e2] <;> refine ⟨fun h => ?_, fun h => ?_, fun h => ?_⟩ <;> first | (exfalso; omega) | (unfold cmpI; (repeat' split) <;> omega)
set_option maxRecDepth 20000 in set_option maxHeartbeats 1000000 in
theorem order_any (y z : Int) (A B : Option Addr) (n m c d : Nat) (w : World) (ha : Wd w A n c y) (hb : Wd w B m d z) (hn : n ≤ 1000) (hm : m ≤ 1000) :
    Calls Tryd.prog 22 #[.agg #[.int .i64 (sgn y), .slice A n c], .agg #[.int .i64 (sgn z), .slice B m d]] w fun e w' => e = .returned (.int .i64 (cmpI y z)) ∧ Below w.heap.size w w' := by
  obtain ⟨l1, l2, l3⟩ := order_law y z
  have AB := fun w h1 h2 => above_any (sgn y) (sgn z) A B n m c d _ _ w h1 h2 (dig_digs y.natAbs) (dig_digs z.natAbs) (by omega) (by omega)
  rw [valD_digs, valD_digs] at AB
  have hx := ha.1
  have hy := hb.1
  have hs := sgn_cases y
  have hcc := cmpI_cases (y.natAbs : Int) (z.natAbs : Int)
  generalize cmpI (y.natAbs : Int) (z.natAbs : Int) = cv at *
  generalize cmpI y z = r at *
  have hs1 : -1 ≤ sgn y ∧ sgn y ≤ 1 := by omega
  generalize digs y.natAbs = xs at *
  generalize digs z.natAbs = ys at *
  clear hs ha hb
  generalize sgn y = s at *
  generalize sgn z = t at *
  replace AB := Lib.hid AB
  replace l1 := Lib.hid l1
  replace l2 := Lib.hid l2
  replace l3 := Lib.hid l3
  by_cases h1 : s < t
  · have hr := Lib.hid (l1.out h1)
    go_enter Tryd.func22, Tryd.ntmps22
    go_wp2
    go_ret
    exact ⟨ret_i hr.out.symm, by repeat (first | with_reducible assumption | with_reducible exact G.refl _ | with_reducible refine G.drew ?_ | with_reducible refine G.drewN ?_ _ | with_reducible refine G.alloc ?_ _ | with_reducible refine Below.setCell ?_ (by first | (simp; done) | (simp; omega)) _ | with_reducible refine G.trans ?_ hb12 | with_reducible refine G.trans ?_ hb11 | with_reducible refine G.trans ?_ hb10 | with_reducible refine G.trans ?_ hb9 | with_reducible refine G.trans ?_ hb8 | with_reducible refine G.trans ?_ hb7 | with_reducible refine G.trans ?_ hb6 | with_reducible refine G.trans ?_ hb5 | with_reducible refine G.trans ?_ hb4 | with_reducible refine G.trans ?_ hb3 | with_reducible refine G.trans ?_ hb2 | with_reducible refine G.trans ?_ hb1 | with_reducible refine G.trans ?_ hb | assumption)⟩
  by_cases h2 : t < s
  · have hr := Lib.hid (l2.out h2)
    go_enter Tryd.func22, Tryd.ntmps22
    go_wp2
    go_ret
    exact ⟨ret_i hr.out.symm, by repeat (first | with_reducible assumption | with_reducible exact G.refl _ | with_reducible refine G.drew ?_ | with_reducible refine G.drewN ?_ _ | with_reducible refine G.alloc ?_ _ | with_reducible refine Below.setCell ?_ (by first | (simp; done) | (simp; omega)) _ | with_reducible refine G.trans ?_ hb12 | with_reducible refine G.trans ?_ hb11 | with_reducible refine G.trans ?_ hb10 | with_reducible refine G.trans ?_ hb9 | with_reducible refine G.trans ?_ hb8 | with_reducible refine G.trans ?_ hb7 | with_reducible refine G.trans ?_ hb6 | with_reducible refine G.trans ?_ hb5 | with_reducible refine G.trans ?_ hb4 | with_reducible refine G.trans ?_ hb3 | with_reducible refine G.trans ?_ hb2 | with_reducible refine G.trans ?_ hb1 | with_reducible refine G.trans ?_ hb | assumption)⟩
  · have h3 : s = t := by omega
    subst h3
    have hr := Lib.hid (l3.out rfl)
    have hw : IntKind.i64.wrap (s * cv) = r := by
      rw [hr.out]
      have : r = s * cv := hr.out.symm
      have hb : -1 ≤ r ∧ r ≤ 1 := by
        rw [this]
        rcases hcc with rfl | rfl | rfl <;> omega
      exact IntWalk.i64_in _ (by omega)
    clear h1 h2 hcc hs1
    go_enter Tryd.func22, Tryd.ntmps22
    go_wp2_with fail
    refine wp_region_ord [(0, 1), (1, 1), (2, 1), (3, 1), (4, 2), (5, 1), (6, 1)] [] 5 (by kernel_rfl) (by decide +kernel) ?_
    simp only [pickO, List.getElem?_cons_succ, List.getElem?_cons_zero]
    intro w0 hG
    (repeat ((first | (with_reducible refine ord_q1 ?_) | (with_reducible refine ord_q0 ?_)); intro K hK; first | (refine Or.inr ⟨?_, ?_⟩; (focus (go_simp; first | done | (simp [undef]; done))); go_simp; (with_reducible refine hK _ ?_); clear hK K) | (refine Or.inl ⟨?_, ?_⟩; (focus (go_simp; done)); apply Exists.intro; refine And.intro ?_ ?_; (focus (first | (intro wq hq; obtain ⟨hcq, hfq⟩ := G.old hq; go_simp; (first | done | exact rfl); done) | (intro wq; go_simp; (first | done | exact rfl); done))); go_simp; (with_reducible refine hK _ ?_); clear hK K) | fail))
    (with_reducible refine ord_run ?_ hG)
    intro K hK
    go_simp
    go_at_call 46; (with_reducible refine (AB.out _ (hx.grow (G.trans (by repeat (first | with_reducible assumption | with_reducible exact G.refl _ | with_reducible refine G.drew ?_ | with_reducible refine G.drewN ?_ _ | with_reducible refine G.alloc ?_ _ | with_reducible refine Below.setCell ?_ (by first | (simp; done) | (simp; omega)) _ | with_reducible refine G.trans ?_ hb12 | with_reducible refine G.trans ?_ hb11 | with_reducible refine G.trans ?_ hb10 | with_reducible refine G.trans ?_ hb9 | with_reducible refine G.trans ?_ hb8 | with_reducible refine G.trans ?_ hb7 | with_reducible refine G.trans ?_ hb6 | with_reducible refine G.trans ?_ hb5 | with_reducible refine G.trans ?_ hb4 | with_reducible refine G.trans ?_ hb3 | with_reducible refine G.trans ?_ hb2 | with_reducible refine G.trans ?_ hb1 | with_reducible refine G.trans ?_ hb | assumption)) hG.b)) (hy.grow (G.trans (by repeat (first | with_reducible assumption | with_reducible exact G.refl _ | with_reducible refine G.drew ?_ | with_reducible refine G.drewN ?_ _ | with_reducible refine G.alloc ?_ _ | with_reducible refine Below.setCell ?_ (by first | (simp; done) | (simp; omega)) _ | with_reducible refine G.trans ?_ hb12 | with_reducible refine G.trans ?_ hb11 | with_reducible refine G.trans ?_ hb10 | with_reducible refine G.trans ?_ hb9 | with_reducible refine G.trans ?_ hb8 | with_reducible refine G.trans ?_ hb7 | with_reducible refine G.trans ?_ hb6 | with_reducible refine G.trans ?_ hb5 | with_reducible refine G.trans ?_ hb4 | with_reducible refine G.trans ?_ hb3 | with_reducible refine G.trans ?_ hb2 | with_reducible refine G.trans ?_ hb1 | with_reducible refine G.trans ?_ hb | assumption)) hG.b))).mono ?_); rintro e w2 ⟨rfl, hb2⟩
    replace hG := Grew.trans hG hb2
    (try dsimp only)
    (with_reducible refine hK _ _ hG ?_)
    clear hK K
    (repeat ((first | (with_reducible refine ord_q1 ?_) | (with_reducible refine ord_q0 ?_)); intro K hK; first | (refine Or.inr ⟨?_, ?_⟩; (focus (go_simp; first | done | (simp [undef]; done))); go_simp; (with_reducible refine hK _ ?_); clear hK K) | (refine Or.inl ⟨?_, ?_⟩; (focus (go_simp; done)); apply Exists.intro; refine And.intro ?_ ?_; (focus (first | (intro wq hq; obtain ⟨hcq, hfq⟩ := G.old hq; go_simp; (first | done | exact rfl); done) | (intro wq; go_simp; (first | done | exact rfl); done))); go_simp; (with_reducible refine hK _ ?_); clear hK K) | fail))
    (with_reducible refine ord_nil ?_)
    have hbw : Below w.heap.size w w2 := G.trans (by repeat (first | with_reducible assumption | with_reducible exact G.refl _ | with_reducible refine G.drew ?_ | with_reducible refine G.drewN ?_ _ | with_reducible refine G.alloc ?_ _ | with_reducible refine Below.setCell ?_ (by first | (simp; done) | (simp; omega)) _ | with_reducible refine G.trans ?_ hb12 | with_reducible refine G.trans ?_ hb11 | with_reducible refine G.trans ?_ hb10 | with_reducible refine G.trans ?_ hb9 | with_reducible refine G.trans ?_ hb8 | with_reducible refine G.trans ?_ hb7 | with_reducible refine G.trans ?_ hb6 | with_reducible refine G.trans ?_ hb5 | with_reducible refine G.trans ?_ hb4 | with_reducible refine G.trans ?_ hb3 | with_reducible refine G.trans ?_ hb2 | with_reducible refine G.trans ?_ hb1 | with_reducible refine G.trans ?_ hb | assumption)) hG.b
    go_wp2
    go_ret
    exact ⟨rfl, hbw⟩

theorem cmp_scale {a b p : Int} (hp : 0 < p) : cmpI (a * p) (b * p) = cmpI a b := by
  rcases Int.lt_trichotomy a b with h | h | h
  · rw [cmpI_lt h, cmpI_lt (Int.mul_lt_mul_of_pos_right h hp)]
  · rw [h, cmpI_zero.2 rfl, cmpI_zero.2 rfl]
  · rw [cmpI_gt h, cmpI_gt (Int.mul_lt_mul_of_pos_right h hp)]
theorem val_scale {n : Int} {j sc : Nat} (h : j ≤ sc) (h' : sc ≤ 12) : valN n j = n * p10 (sc - j) * p10 (12 - sc) := by
  unfold valN
  rw [Int.mul_assoc, ← p10_add, Int.toNat_natCast, show sc - j + (12 - sc) = 12 - j by omega]
set_option maxRecDepth 20000 in set_option maxHeartbeats 1000000 in
theorem refcmp_any (n s m t : Int) (w : World) (h1 : okN n s = true) (h2 : okN m t = true) :
    Calls Tryd.prog 35 #[.agg #[.int .i64 n, .int .i64 s], .agg #[.int .i64 m, .int .i64 t]] w fun e w' => e = .returned (.int .i64 (cmpI (valN n s) (valN m t))) ∧ Below w.heap.size w w' := by
  obtain ⟨j, rfl, hj, hn0, hn1⟩ := okN_nat h1
  obtain ⟨i, rfl, hi, hm0, hm1⟩ := okN_nat h2
  clear h1 h2
  have main : ∀ sc : Nat, j ≤ sc → i ≤ sc → sc ≤ 12 → ((i ≤ j ∧ sc = j) ∨ (j < i ∧ sc = i)) → Calls Tryd.prog 35 #[.agg #[.int .i64 n, .int .i64 j], .agg #[.int .i64 m, .int .i64 i]] w fun e w' => e = .returned (.int .i64 (cmpI (valN n j) (valN m i))) ∧ Below w.heap.size w w' := by
    intro sc hjs his hsc hcase
    have P1 := Lib.hid (fun w => at_any n j sc w hn0 hn1 hjs hsc)
    have P2 := Lib.hid (fun w => at_any m i sc w hm0 hm1 his hsc)
    have l1 := Lib.hid (digs_27 (q := sc - j) hn0 hn1 (by omega))
    have l2 := Lib.hid (digs_27 (q := sc - i) hm0 hm1 (by omega))
    have hr : Hid (cmpI (n * p10 (sc - j)) (m * p10 (sc - i)) = cmpI (valN n j) (valN m i)) := by
      unfold Hid
      rw [val_scale hjs hsc, val_scale his hsc, cmp_scale (p10_pos _)]
    generalize cmpI (valN n j) (valN m i) = cv at *
    generalize n * p10 (sc - j) = Z1 at *
    generalize m * p10 (sc - i) = Z2 at *
    clear hn0 hn1 hm0 hm1
    rcases hcase with ⟨hc1, rfl⟩ | ⟨hc1, rfl⟩
    · have hc2 : (i : Int) ≤ (sc : Int) := by omega
      go_enter Tryd.func35, Tryd.ntmps35
      go_wp2_with fail
      refine wp_region_ord [(0, 1), (1, 1), (3, 1), (4, 1), (2, 2), (5, 2), (6, 2), (7, 1)] [] 5 (by kernel_rfl) (by decide +kernel) ?_
      simp only [pickO, List.getElem?_cons_succ, List.getElem?_cons_zero]
      intro w0 hG
      (repeat ((first | (with_reducible refine ord_q1 ?_) | (with_reducible refine ord_q0 ?_)); intro K hK; first | (refine Or.inr ⟨?_, ?_⟩; (focus (go_simp; first | done | (simp [undef]; done))); go_simp; (with_reducible refine hK _ ?_); clear hK K) | (refine Or.inl ⟨?_, ?_⟩; (focus (go_simp; done)); apply Exists.intro; refine And.intro ?_ ?_; (focus (first | (intro wq hq; obtain ⟨hcq, hfq⟩ := G.old hq; go_simp; (first | done | exact rfl); done) | (intro wq; go_simp; (first | done | exact rfl); done))); go_simp; (with_reducible refine hK _ ?_); clear hK K) | fail))
      (with_reducible refine ord_run ?_ hG)
      intro K hK
      go_simp
      go_at_call 20; (with_reducible refine (P1.out _).mono ?_); rintro e w3 ⟨A3, n3, c3, rfl, hw3, ha3, hb3⟩
      replace hG := Grew.trans hG hb3
      (try dsimp only)
      (with_reducible refine hK _ _ hG ?_)
      clear hK K
      (repeat ((first | (with_reducible refine ord_q1 ?_) | (with_reducible refine ord_q0 ?_)); intro K hK; first | (refine Or.inr ⟨?_, ?_⟩; (focus (go_simp; first | done | (simp [undef]; done))); go_simp; (with_reducible refine hK _ ?_); clear hK K) | (refine Or.inl ⟨?_, ?_⟩; (focus (go_simp; done)); apply Exists.intro; refine And.intro ?_ ?_; (focus (first | (intro wq hq; obtain ⟨hcq, hfq⟩ := G.old hq; go_simp; (first | done | exact rfl); done) | (intro wq; go_simp; (first | done | exact rfl); done))); go_simp; (with_reducible refine hK _ ?_); clear hK K) | fail))
      (with_reducible refine ord_run ?_ hG)
      intro K hK
      go_simp
      go_at_call 20; (with_reducible refine (P2.out _).mono ?_); rintro e w4 ⟨A4, n4, c4, rfl, hw4, ha4, hb4⟩
      replace hG := Grew.trans hG hb4
      (try dsimp only)
      (with_reducible refine hK _ _ hG ?_)
      clear hK K
      (repeat ((first | (with_reducible refine ord_q1 ?_) | (with_reducible refine ord_q0 ?_)); intro K hK; first | (refine Or.inr ⟨?_, ?_⟩; (focus (go_simp; first | done | (simp [undef]; done))); go_simp; (with_reducible refine hK _ ?_); clear hK K) | (refine Or.inl ⟨?_, ?_⟩; (focus (go_simp; done)); apply Exists.intro; refine And.intro ?_ ?_; (focus (first | (intro wq hq; obtain ⟨hcq, hfq⟩ := G.old hq; go_simp; (first | done | exact rfl); done) | (intro wq; go_simp; (first | done | exact rfl); done))); go_simp; (with_reducible refine hK _ ?_); clear hK K) | fail))
      (with_reducible refine ord_run ?_ hG)
      intro K hK
      go_simp
      go_at_call 22; (with_reducible refine (order_any Z1 Z2 A3 A4 n3 n4 c3 c4 _ (hw3.grow hb4) hw4 (by rw [← hw3.len]; exact l1.out) (by rw [← hw4.len]; exact l2.out)).mono ?_); rintro e w5 ⟨rfl, hb5⟩
      replace hG := Grew.trans hG hb5
      (try dsimp only)
      (with_reducible refine hK _ _ hG ?_)
      clear hK K
      (repeat ((first | (with_reducible refine ord_q1 ?_) | (with_reducible refine ord_q0 ?_)); intro K hK; first | (refine Or.inr ⟨?_, ?_⟩; (focus (go_simp; first | done | (simp [undef]; done))); go_simp; (with_reducible refine hK _ ?_); clear hK K) | (refine Or.inl ⟨?_, ?_⟩; (focus (go_simp; done)); apply Exists.intro; refine And.intro ?_ ?_; (focus (first | (intro wq hq; obtain ⟨hcq, hfq⟩ := G.old hq; go_simp; (first | done | exact rfl); done) | (intro wq; go_simp; (first | done | exact rfl); done))); go_simp; (with_reducible refine hK _ ?_); clear hK K) | fail))
      (with_reducible refine ord_nil ?_)
      have hbw : Below w.heap.size w w5 := G.trans (by repeat (first | with_reducible assumption | with_reducible exact G.refl _ | with_reducible refine G.drew ?_ | with_reducible refine G.drewN ?_ _ | with_reducible refine G.alloc ?_ _ | with_reducible refine Below.setCell ?_ (by first | (simp; done) | (simp; omega)) _ | with_reducible refine G.trans ?_ hb12 | with_reducible refine G.trans ?_ hb11 | with_reducible refine G.trans ?_ hb10 | with_reducible refine G.trans ?_ hb9 | with_reducible refine G.trans ?_ hb8 | with_reducible refine G.trans ?_ hb7 | with_reducible refine G.trans ?_ hb6 | with_reducible refine G.trans ?_ hb5 | with_reducible refine G.trans ?_ hb4 | with_reducible refine G.trans ?_ hb3 | with_reducible refine G.trans ?_ hb2 | with_reducible refine G.trans ?_ hb1 | with_reducible refine G.trans ?_ hb | assumption)) hG.b
      go_wp2
      go_ret
      exact ⟨ret_i hr.out, hbw⟩
    · have hc2 : ¬ (sc : Int) ≤ (j : Int) := by omega
      go_enter Tryd.func35, Tryd.ntmps35
      go_wp2_with fail
      refine wp_region_ord [(0, 1), (1, 1), (3, 1), (4, 1), (2, 2), (5, 2), (6, 2), (7, 1)] [] 5 (by kernel_rfl) (by decide +kernel) ?_
      simp only [pickO, List.getElem?_cons_succ, List.getElem?_cons_zero]
      intro w0 hG
      (repeat ((first | (with_reducible refine ord_q1 ?_) | (with_reducible refine ord_q0 ?_)); intro K hK; first | (refine Or.inr ⟨?_, ?_⟩; (focus (go_simp; first | done | (simp [undef]; done))); go_simp; (with_reducible refine hK _ ?_); clear hK K) | (refine Or.inl ⟨?_, ?_⟩; (focus (go_simp; done)); apply Exists.intro; refine And.intro ?_ ?_; (focus (first | (intro wq hq; obtain ⟨hcq, hfq⟩ := G.old hq; go_simp; (first | done | exact rfl); done) | (intro wq; go_simp; (first | done | exact rfl); done))); go_simp; (with_reducible refine hK _ ?_); clear hK K) | fail))
      (with_reducible refine ord_run ?_ hG)
      intro K hK
      go_simp
      go_at_call 20; (with_reducible refine (P1.out _).mono ?_); rintro e w3 ⟨A3, n3, c3, rfl, hw3, ha3, hb3⟩
      replace hG := Grew.trans hG hb3
      (try dsimp only)
      (with_reducible refine hK _ _ hG ?_)
      clear hK K
      (repeat ((first | (with_reducible refine ord_q1 ?_) | (with_reducible refine ord_q0 ?_)); intro K hK; first | (refine Or.inr ⟨?_, ?_⟩; (focus (go_simp; first | done | (simp [undef]; done))); go_simp; (with_reducible refine hK _ ?_); clear hK K) | (refine Or.inl ⟨?_, ?_⟩; (focus (go_simp; done)); apply Exists.intro; refine And.intro ?_ ?_; (focus (first | (intro wq hq; obtain ⟨hcq, hfq⟩ := G.old hq; go_simp; (first | done | exact rfl); done) | (intro wq; go_simp; (first | done | exact rfl); done))); go_simp; (with_reducible refine hK _ ?_); clear hK K) | fail))
      (with_reducible refine ord_run ?_ hG)
      intro K hK
      go_simp
      go_at_call 20; (with_reducible refine (P2.out _).mono ?_); rintro e w4 ⟨A4, n4, c4, rfl, hw4, ha4, hb4⟩
      replace hG := Grew.trans hG hb4
      (try dsimp only)
      (with_reducible refine hK _ _ hG ?_)
      clear hK K
      (repeat ((first | (with_reducible refine ord_q1 ?_) | (with_reducible refine ord_q0 ?_)); intro K hK; first | (refine Or.inr ⟨?_, ?_⟩; (focus (go_simp; first | done | (simp [undef]; done))); go_simp; (with_reducible refine hK _ ?_); clear hK K) | (refine Or.inl ⟨?_, ?_⟩; (focus (go_simp; done)); apply Exists.intro; refine And.intro ?_ ?_; (focus (first | (intro wq hq; obtain ⟨hcq, hfq⟩ := G.old hq; go_simp; (first | done | exact rfl); done) | (intro wq; go_simp; (first | done | exact rfl); done))); go_simp; (with_reducible refine hK _ ?_); clear hK K) | fail))
      (with_reducible refine ord_run ?_ hG)
      intro K hK
      go_simp
      go_at_call 22; (with_reducible refine (order_any Z1 Z2 A3 A4 n3 n4 c3 c4 _ (hw3.grow hb4) hw4 (by rw [← hw3.len]; exact l1.out) (by rw [← hw4.len]; exact l2.out)).mono ?_); rintro e w5 ⟨rfl, hb5⟩
      replace hG := Grew.trans hG hb5
      (try dsimp only)
      (with_reducible refine hK _ _ hG ?_)
      clear hK K
      (repeat ((first | (with_reducible refine ord_q1 ?_) | (with_reducible refine ord_q0 ?_)); intro K hK; first | (refine Or.inr ⟨?_, ?_⟩; (focus (go_simp; first | done | (simp [undef]; done))); go_simp; (with_reducible refine hK _ ?_); clear hK K) | (refine Or.inl ⟨?_, ?_⟩; (focus (go_simp; done)); apply Exists.intro; refine And.intro ?_ ?_; (focus (first | (intro wq hq; obtain ⟨hcq, hfq⟩ := G.old hq; go_simp; (first | done | exact rfl); done) | (intro wq; go_simp; (first | done | exact rfl); done))); go_simp; (with_reducible refine hK _ ?_); clear hK K) | fail))
      (with_reducible refine ord_nil ?_)
      have hbw : Below w.heap.size w w5 := G.trans (by repeat (first | with_reducible assumption | with_reducible exact G.refl _ | with_reducible refine G.drew ?_ | with_reducible refine G.drewN ?_ _ | with_reducible refine G.alloc ?_ _ | with_reducible refine Below.setCell ?_ (by first | (simp; done) | (simp; omega)) _ | with_reducible refine G.trans ?_ hb12 | with_reducible refine G.trans ?_ hb11 | with_reducible refine G.trans ?_ hb10 | with_reducible refine G.trans ?_ hb9 | with_reducible refine G.trans ?_ hb8 | with_reducible refine G.trans ?_ hb7 | with_reducible refine G.trans ?_ hb6 | with_reducible refine G.trans ?_ hb5 | with_reducible refine G.trans ?_ hb4 | with_reducible refine G.trans ?_ hb3 | with_reducible refine G.trans ?_ hb2 | with_reducible refine G.trans ?_ hb1 | with_reducible refine G.trans ?_ hb | assumption)) hG.b
      go_wp2
      go_ret
      exact ⟨ret_i hr.out, hbw⟩
  rcases Nat.lt_or_ge j i with h | h
  · exact main i (by omega) (by omega) (by omega) (.inr ⟨h, rfl⟩)
  · exact main j (by omega) (by omega) (by omega) (.inl ⟨h, rfl⟩)
end Go.Proofs.YtoipapcbngknfaaDoor
