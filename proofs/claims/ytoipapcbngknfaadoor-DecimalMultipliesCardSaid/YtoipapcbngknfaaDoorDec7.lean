/- What decimal.Mul computes. -/
import Derived.Test.YtoipapcbngknfaaDoorDec4
import Derived.Test.YtoipapcbngknfaaDoorRef2
namespace Go.Proofs.YtoipapcbngknfaaDoor
set_option linter.unusedVariables false
set_option linter.unnecessarySimpa false
set_option linter.unusedSimpArgs false
open Go.RowKit

theorem ord_skip {P : Program} {ops : Array Oper} {Q : Exit → Act → World → Prop} {C : World → Prop} {o : Oper} {l : List (Nat × Oper)} {a : Act} {w : World} (hw : Region.wanted o (yielded ops a.tmps) = false) (hc : C w)
    (h : ∀ K : Act → Prop, (∀ a', wpOrd P ops Q C l a' w → K a') → K (a.put o.dst undef)) : wpOrd P ops Q C ((2, o) :: l) a w := by
  simp only [wpOrd, hw, Bool.false_eq_true, if_false]
  exact h (fun a' => wpOrd P ops Q C l a' w) (fun _ h => h)
/-- Mul's result. -/
def mulN (n s m t : Int) : Int × Int × Int :=
  if okN n s = true ∧ okN m t = true then (if s + t ≤ 12 then fitN (n * m) (s + t) else (0, 0, 14)) else (0, 0, 2)
theorem mul_law {n m : Int} (hm : m ≠ 0) (h0 : -999999999999999 ≤ n) (h1 : n ≤ 999999999999999) :
    (max n (-n) > (999999999999999 : Int).tdiv (max m (-m)) → ¬ (-999999999999999 ≤ n * m ∧ n * m ≤ 999999999999999)) ∧
    (¬ max n (-n) > (999999999999999 : Int).tdiv (max m (-m)) → -999999999999999 ≤ n * m ∧ n * m ≤ 999999999999999) := by
  have hb : 0 < max m (-m) := by omega
  have hM := tparts 999999999999999 (max m (-m))
  have hMm := tmod_bd (n := 999999999999999) hb
  have hN0 := hMm.2.2.1 (by omega)
  have hab : (max n (-n)) * (max m (-m)) = max (n * m) (-(n * m)) := by
    rcases Int.le_total 0 n with hn | hn <;> rcases Int.le_total 0 m with hk | hk
    · rw [show max n (-n) = n by omega, show max m (-m) = m by omega]; have := Int.mul_nonneg hn hk; omega
    · rw [show max n (-n) = n by omega, show max m (-m) = -m by omega, Int.mul_neg]; have := Int.mul_nonneg hn (show 0 ≤ -m by omega); rw [Int.mul_neg] at this; omega
    · rw [show max n (-n) = -n by omega, show max m (-m) = m by omega, Int.neg_mul]; have := Int.mul_nonneg (show 0 ≤ -n by omega) hk; rw [Int.neg_mul] at this; omega
    · rw [show max n (-n) = -n by omega, show max m (-m) = -m by omega, Int.neg_mul_neg]; have := Int.mul_nonneg (show 0 ≤ -n by omega) (show 0 ≤ -m by omega); rw [Int.neg_mul_neg] at this; omega
  generalize (999999999999999 : Int).tdiv (max m (-m)) = M at *
  generalize (999999999999999 : Int).tmod (max m (-m)) = N at *
  generalize max m (-m) = b at *
  have ha0 : 0 ≤ max n (-n) := by omega
  generalize max n (-n) = a at *
  constructor
  · intro hgt
    have h5 : (M + 1) * b ≤ a * b := Int.mul_le_mul_of_nonneg_right (by omega) (Int.le_of_lt hb)
    rw [Int.add_mul, Int.one_mul] at h5
    omega
  · intro hle
    have h5 : a * b ≤ M * b := Int.mul_le_mul_of_nonneg_right (by omega) (Int.le_of_lt hb)
    omega
set_option maxRecDepth 20000 in set_option maxHeartbeats 400000 in
theorem mul_bad (n s m t : Int) (w : World) (h1 : (Lit.int .i64 n).wf = true) (h2 : (Lit.int .i64 m).wf = true) (hbad : ¬ (okN n s = true ∧ okN m t = true)) :
    Calls Tryd.prog 27 #[.agg #[.int .i64 n, .int .i64 s], .agg #[.int .i64 m, .int .i64 t]] w (RetF (mulN n s m t) w) := by
  have hr : Hid (mulN n s m t = (0, 0, 2)) := if_neg hbad
  have C := Lib.hid (fun A c w hx => checkL2_any n s m t A c w hx h1 h2)
  rw [if_neg hbad] at C
  clear hbad h1 h2
  go_enter Tryd.func27, Tryd.ntmps27
  go_wp2_with fail
  refine (C.out _ _ _ ?_).mono ?_
  · exact NumsAt.two (by simp)
  rintro e w1 ⟨rfl, hb⟩
  
  replace k0 := G.cell (a := ⟨w.heap.size + 1 + 1, 0, none⟩) (v := .int .i64 0) (by go_simp) hb
  replace k1 := G.cell (a := ⟨w.heap.size + 1 + 1, 1, none⟩) (v := .int .i64 0) (by go_simp) hb
  replace lt0 := cell_lt k0
  replace lt1 := cell_lt k1
  obtain ⟨hc, hf⟩ := G.old hb
  have z0 : w1.frozen? ⟨w.heap.size + 1 + 1, 0, none⟩ = false := (hf _ _ (by simp)).trans (by go_simp)
  have z1 : w1.frozen? ⟨w.heap.size + 1 + 1, 1, none⟩ = false := (hf _ _ (by simp)).trans (by go_simp)
  go_wp2_with fail
  exact bodyPost_ret (v := .tuple #[.agg #[.int .i64 0, .int .i64 0], .int .i64 2]) (by simp only [results, Tryd.results27]; go_simp) rfl ⟨by rw [hr.out], by repeat (first | with_reducible assumption | with_reducible exact G.refl _ | with_reducible refine G.drew ?_ | with_reducible refine G.drewN ?_ _ | with_reducible refine G.alloc ?_ _ | with_reducible refine Below.setCell ?_ (by first | (simp; done) | (simp; omega)) _ | with_reducible refine G.trans ?_ hb12 | with_reducible refine G.trans ?_ hb11 | with_reducible refine G.trans ?_ hb10 | with_reducible refine G.trans ?_ hb9 | with_reducible refine G.trans ?_ hb8 | with_reducible refine G.trans ?_ hb7 | with_reducible refine G.trans ?_ hb6 | with_reducible refine G.trans ?_ hb5 | with_reducible refine G.trans ?_ hb4 | with_reducible refine G.trans ?_ hb3 | with_reducible refine G.trans ?_ hb2 | with_reducible refine G.trans ?_ hb1 | with_reducible refine G.trans ?_ hb | assumption)⟩
set_option maxRecDepth 20000 in set_option maxHeartbeats 1000000 in
theorem mul_ok (n s m t : Int) (w : World) (h1 : okN n s = true) (h2 : okN m t = true) :
    Calls Tryd.prog 27 #[.agg #[.int .i64 n, .int .i64 s], .agg #[.int .i64 m, .int .i64 t]] w (RetF (mulN n s m t) w) := by
  have C := Lib.hid (fun A c w hx => checkL2_any n s m t A c w hx (wf_ok h1) (wf_ok h2))
  rw [if_pos ⟨h1, h2⟩] at C
  have hr0 : mulN n s m t = if s + t ≤ 12 then fitN (n * m) (s + t) else (0, 0, 14) := if_pos ⟨h1, h2⟩
  obtain ⟨n0, n1, s0, s1⟩ := okN_iff.1 h1
  obtain ⟨m0, m1, t0, t1⟩ := okN_iff.1 h2
  have hsum : IntKind.i64.wrap (s + t) = s + t := IntWalk.i64_in _ (by omega)
  clear h1 h2
  by_cases h12 : 12 < s + t
  · have hr : Hid (mulN n s m t = (0, 0, 14)) := by unfold Hid; rw [hr0, if_neg (by omega)]
    clear hr0
    go_enter Tryd.func27, Tryd.ntmps27
    go_wp2_with fail
    refine (C.out _ _ _ ?_).mono ?_
    · exact NumsAt.two (by simp)
    rintro e w1 ⟨rfl, hb⟩
    
    replace k0 := G.cell (a := ⟨w.heap.size, 0, none⟩) (v := .int .i64 n) (by go_simp) hb
    replace k1 := G.cell (a := ⟨w.heap.size, 1, none⟩) (v := .int .i64 s) (by go_simp) hb
    replace k2 := G.cell (a := ⟨w.heap.size + 1, 0, none⟩) (v := .int .i64 m) (by go_simp) hb
    replace k3 := G.cell (a := ⟨w.heap.size + 1, 1, none⟩) (v := .int .i64 t) (by go_simp) hb
    replace k4 := G.cell (a := ⟨w.heap.size + 1 + 1, 0, none⟩) (v := .int .i64 0) (by go_simp) hb
    replace k5 := G.cell (a := ⟨w.heap.size + 1 + 1, 1, none⟩) (v := .int .i64 0) (by go_simp) hb
    replace lt0 := cell_lt k0
    replace lt1 := cell_lt k1
    replace lt2 := cell_lt k2
    replace lt3 := cell_lt k3
    replace lt4 := cell_lt k4
    replace lt5 := cell_lt k5
    obtain ⟨hc, hf⟩ := G.old hb
    have z0 : w1.frozen? ⟨w.heap.size + 1 + 1, 0, none⟩ = false := (hf _ _ (by simp)).trans (by go_simp)
    have z1 : w1.frozen? ⟨w.heap.size + 1 + 1, 1, none⟩ = false := (hf _ _ (by simp)).trans (by go_simp)
    have hbx : Box2 w1 (w.heap.size + 1 + 1) (.int .i64 0) (.int .i64 0) := ⟨k4, k5, z0, z1⟩
    have hbw : Below w.heap.size w w1 := by repeat (first | with_reducible assumption | with_reducible exact G.refl _ | with_reducible refine G.drew ?_ | with_reducible refine G.drewN ?_ _ | with_reducible refine G.alloc ?_ _ | with_reducible refine Below.setCell ?_ (by first | (simp; done) | (simp; omega)) _ | with_reducible refine G.trans ?_ hb12 | with_reducible refine G.trans ?_ hb11 | with_reducible refine G.trans ?_ hb10 | with_reducible refine G.trans ?_ hb9 | with_reducible refine G.trans ?_ hb8 | with_reducible refine G.trans ?_ hb7 | with_reducible refine G.trans ?_ hb6 | with_reducible refine G.trans ?_ hb5 | with_reducible refine G.trans ?_ hb4 | with_reducible refine G.trans ?_ hb3 | with_reducible refine G.trans ?_ hb2 | with_reducible refine G.trans ?_ hb1 | with_reducible refine G.trans ?_ hb | assumption)
    clear hc hf hb z0 z1
    go_wp2_with fail
    refine wp_region_ord [(0, 1), (1, 1), (2, 1), (3, 1), (4, 1), (5, 1), (6, 1), (7, 1), (8, 1), (10, 1), (11, 1), (9, 2), (12, 2), (13, 1), (14, 1), (15, 1), (16, 1)] [] 5 (by kernel_rfl) (by decide +kernel) ?_
    simp only [pickO, List.getElem?_cons_succ, List.getElem?_cons_zero]
    intro w0 hG
    (repeat ((first | (with_reducible refine ord_q1 ?_) | (with_reducible refine ord_q0 ?_)); intro K hK; first | (refine Or.inr ⟨?_, ?_⟩; (focus (go_simp; first | done | (simp [undef]; done))); go_simp; (with_reducible refine hK _ ?_); clear hK K) | (refine Or.inl ⟨?_, ?_⟩; (focus (go_simp; done)); apply Exists.intro; refine And.intro ?_ ?_; (focus (first | (intro wq hq; obtain ⟨hcq, hfq⟩ := G.old hq; go_simp; (first | done | exact rfl); done) | (intro wq; go_simp; (first | done | exact rfl); done))); go_simp; (with_reducible refine hK _ ?_); clear hK K) | fail))
    (with_reducible refine ord_skip ?_ hG ?_); (focus (go_simp; first | done | (simp [undef]; done))); intro K hK; go_simp; (with_reducible refine hK _ ?_); clear hK K; (repeat ((first | (with_reducible refine ord_q1 ?_) | (with_reducible refine ord_q0 ?_)); intro K hK; first | (refine Or.inr ⟨?_, ?_⟩; (focus (go_simp; first | done | (simp [undef]; done))); go_simp; (with_reducible refine hK _ ?_); clear hK K) | (refine Or.inl ⟨?_, ?_⟩; (focus (go_simp; done)); apply Exists.intro; refine And.intro ?_ ?_; (focus (first | (intro wq hq; obtain ⟨hcq, hfq⟩ := G.old hq; go_simp; (first | done | exact rfl); done) | (intro wq; go_simp; (first | done | exact rfl); done))); go_simp; (with_reducible refine hK _ ?_); clear hK K) | fail))
    (with_reducible refine ord_skip ?_ hG ?_); (focus (go_simp; first | done | (simp [undef]; done))); intro K hK; go_simp; (with_reducible refine hK _ ?_); clear hK K; (repeat ((first | (with_reducible refine ord_q1 ?_) | (with_reducible refine ord_q0 ?_)); intro K hK; first | (refine Or.inr ⟨?_, ?_⟩; (focus (go_simp; first | done | (simp [undef]; done))); go_simp; (with_reducible refine hK _ ?_); clear hK K) | (refine Or.inl ⟨?_, ?_⟩; (focus (go_simp; done)); apply Exists.intro; refine And.intro ?_ ?_; (focus (first | (intro wq hq; obtain ⟨hcq, hfq⟩ := G.old hq; go_simp; (first | done | exact rfl); done) | (intro wq; go_simp; (first | done | exact rfl); done))); go_simp; (with_reducible refine hK _ ?_); clear hK K) | fail))
    (with_reducible refine ord_nil ?_)
    have hbw2 := G.trans hbw hG.b
    replace hbx := hbx.grow hG.b
    obtain ⟨r1, r2, r3, r4⟩ := id hbx
    have ltR := hbx.lt
    go_wp2_with fail
    exact bodyPost_ret (v := .tuple #[.agg #[.int .i64 0, .int .i64 0], .int .i64 14]) (by simp only [results, Tryd.results27]; go_simp) rfl ⟨by rw [hr.out], (hbw2.setCell (by simp; omega) _).setCell (by simp; omega) _⟩
  have hr1 : mulN n s m t = fitN (n * m) (s + t) := by rw [hr0, if_pos (by omega)]
  clear hr0
  by_cases hm0 : m = 0
  · subst hm0
    have hr : Hid (mulN n s 0 t = fitN 0 (s + t)) := by unfold Hid; rw [hr1, Int.mul_zero]
    have FT := Lib.hid (fun w => fit_any 0 (s + t) w (by omega) (by omega))
    clear hr1
    go_enter Tryd.func27, Tryd.ntmps27
    go_wp2_with fail
    refine (C.out _ _ _ ?_).mono ?_
    · exact NumsAt.two (by simp)
    rintro e w1 ⟨rfl, hb⟩
    
    replace k0 := G.cell (a := ⟨w.heap.size, 0, none⟩) (v := .int .i64 n) (by go_simp) hb
    replace k1 := G.cell (a := ⟨w.heap.size, 1, none⟩) (v := .int .i64 s) (by go_simp) hb
    replace k2 := G.cell (a := ⟨w.heap.size + 1, 0, none⟩) (v := .int .i64 0) (by go_simp) hb
    replace k3 := G.cell (a := ⟨w.heap.size + 1, 1, none⟩) (v := .int .i64 t) (by go_simp) hb
    replace k4 := G.cell (a := ⟨w.heap.size + 1 + 1, 0, none⟩) (v := .int .i64 0) (by go_simp) hb
    replace k5 := G.cell (a := ⟨w.heap.size + 1 + 1, 1, none⟩) (v := .int .i64 0) (by go_simp) hb
    replace lt0 := cell_lt k0
    replace lt1 := cell_lt k1
    replace lt2 := cell_lt k2
    replace lt3 := cell_lt k3
    replace lt4 := cell_lt k4
    replace lt5 := cell_lt k5
    obtain ⟨hc, hf⟩ := G.old hb
    have z0 : w1.frozen? ⟨w.heap.size + 1 + 1, 0, none⟩ = false := (hf _ _ (by simp)).trans (by go_simp)
    have z1 : w1.frozen? ⟨w.heap.size + 1 + 1, 1, none⟩ = false := (hf _ _ (by simp)).trans (by go_simp)
    have hbx : Box2 w1 (w.heap.size + 1 + 1) (.int .i64 0) (.int .i64 0) := ⟨k4, k5, z0, z1⟩
    have hbw : Below w.heap.size w w1 := by repeat (first | with_reducible assumption | with_reducible exact G.refl _ | with_reducible refine G.drew ?_ | with_reducible refine G.drewN ?_ _ | with_reducible refine G.alloc ?_ _ | with_reducible refine Below.setCell ?_ (by first | (simp; done) | (simp; omega)) _ | with_reducible refine G.trans ?_ hb12 | with_reducible refine G.trans ?_ hb11 | with_reducible refine G.trans ?_ hb10 | with_reducible refine G.trans ?_ hb9 | with_reducible refine G.trans ?_ hb8 | with_reducible refine G.trans ?_ hb7 | with_reducible refine G.trans ?_ hb6 | with_reducible refine G.trans ?_ hb5 | with_reducible refine G.trans ?_ hb4 | with_reducible refine G.trans ?_ hb3 | with_reducible refine G.trans ?_ hb2 | with_reducible refine G.trans ?_ hb1 | with_reducible refine G.trans ?_ hb | assumption)
    clear hc hf hb z0 z1
    go_wp2_with fail
    refine wp_region_ord [(0, 1), (1, 1), (2, 1), (3, 1), (4, 1), (5, 1), (6, 1), (7, 1), (8, 1), (10, 1), (11, 1), (9, 2), (12, 2), (13, 1), (14, 1), (15, 1), (16, 1)] [] 5 (by kernel_rfl) (by decide +kernel) ?_
    simp only [pickO, List.getElem?_cons_succ, List.getElem?_cons_zero]
    intro w0 hG
    (repeat ((first | (with_reducible refine ord_q1 ?_) | (with_reducible refine ord_q0 ?_)); intro K hK; first | (refine Or.inr ⟨?_, ?_⟩; (focus (go_simp; first | done | (simp [undef]; done))); go_simp; (with_reducible refine hK _ ?_); clear hK K) | (refine Or.inl ⟨?_, ?_⟩; (focus (go_simp; done)); apply Exists.intro; refine And.intro ?_ ?_; (focus (first | (intro wq hq; obtain ⟨hcq, hfq⟩ := G.old hq; go_simp; (first | done | exact rfl); done) | (intro wq; go_simp; (first | done | exact rfl); done))); go_simp; (with_reducible refine hK _ ?_); clear hK K) | fail))
    (with_reducible refine ord_skip ?_ hG ?_); (focus (go_simp; first | done | (simp [undef]; done))); intro K hK; go_simp; (with_reducible refine hK _ ?_); clear hK K; (repeat ((first | (with_reducible refine ord_q1 ?_) | (with_reducible refine ord_q0 ?_)); intro K hK; first | (refine Or.inr ⟨?_, ?_⟩; (focus (go_simp; first | done | (simp [undef]; done))); go_simp; (with_reducible refine hK _ ?_); clear hK K) | (refine Or.inl ⟨?_, ?_⟩; (focus (go_simp; done)); apply Exists.intro; refine And.intro ?_ ?_; (focus (first | (intro wq hq; obtain ⟨hcq, hfq⟩ := G.old hq; go_simp; (first | done | exact rfl); done) | (intro wq; go_simp; (first | done | exact rfl); done))); go_simp; (with_reducible refine hK _ ?_); clear hK K) | fail))
    (with_reducible refine ord_skip ?_ hG ?_); (focus (go_simp; first | done | (simp [undef]; done))); intro K hK; go_simp; (with_reducible refine hK _ ?_); clear hK K; (repeat ((first | (with_reducible refine ord_q1 ?_) | (with_reducible refine ord_q0 ?_)); intro K hK; first | (refine Or.inr ⟨?_, ?_⟩; (focus (go_simp; first | done | (simp [undef]; done))); go_simp; (with_reducible refine hK _ ?_); clear hK K) | (refine Or.inl ⟨?_, ?_⟩; (focus (go_simp; done)); apply Exists.intro; refine And.intro ?_ ?_; (focus (first | (intro wq hq; obtain ⟨hcq, hfq⟩ := G.old hq; go_simp; (first | done | exact rfl); done) | (intro wq; go_simp; (first | done | exact rfl); done))); go_simp; (with_reducible refine hK _ ?_); clear hK K) | fail))
    (with_reducible refine ord_nil ?_)
    have hbw2 := G.trans hbw hG.b
    replace k0 := G.cell (a := ⟨w.heap.size, 0, none⟩) (v := .int .i64 n) (by go_simp) hG.b
    replace k1 := G.cell (a := ⟨w.heap.size, 1, none⟩) (v := .int .i64 s) (by go_simp) hG.b
    replace k2 := G.cell (a := ⟨w.heap.size + 1, 0, none⟩) (v := .int .i64 0) (by go_simp) hG.b
    replace k3 := G.cell (a := ⟨w.heap.size + 1, 1, none⟩) (v := .int .i64 t) (by go_simp) hG.b
    replace k4 := G.cell (a := ⟨w.heap.size + 1 + 1, 0, none⟩) (v := .int .i64 0) (by go_simp) hG.b
    replace k5 := G.cell (a := ⟨w.heap.size + 1 + 1, 1, none⟩) (v := .int .i64 0) (by go_simp) hG.b
    replace lt0 := cell_lt k0
    replace lt1 := cell_lt k1
    replace lt2 := cell_lt k2
    replace lt3 := cell_lt k3
    replace lt4 := cell_lt k4
    replace lt5 := cell_lt k5
    replace hbx := hbx.grow hG.b
    clear hG
    go_wp2_with fail
    refine (FT.out _).mono ?_
    rintro e w3 ⟨rfl, hb3⟩
    obtain ⟨r1, r2, r3, r4⟩ := hbx.grow hb3
    have ltR := cell_lt r1
    go_wp2_with fail
    exact bodyPost_ret (v := .tuple #[.agg #[.int .i64 (fitN 0 (s + t)).1, .int .i64 (fitN 0 (s + t)).2.1], .int .i64 (fitN 0 (s + t)).2.2]) (by simp only [results, Tryd.results27]; go_simp) rfl ⟨by rw [hr.out], ((G.trans hbw2 hb3).setCell (by simp; omega) _).setCell (by simp; omega) _⟩
  · have hmb : (m != 0) = true := by simp [hm0]
    have hlaw := mul_law hm0 n0 n1
    have A1 := fun w => abs_any n w (neg_in (by omega) (by omega))
    have A2 := fun w => abs_any m w (neg_in (by omega) (by omega))
    have hb0 : ¬ max m (-m) = 0 := by omega
    have hbd := tdiv_bd (n := 999999999999999) (P := max m (-m)) (M := 999999999999999) (by omega) (by omega) (by omega)
    generalize max n (-n) = a at *
    generalize max m (-m) = b at *
    have hq : IntKind.i64.wrap ((999999999999999 : Int).tdiv b) = (999999999999999 : Int).tdiv b := IntWalk.i64_in _ (by omega)
    obtain ⟨M, hM⟩ : ∃ M, (999999999999999 : Int).tdiv b = M := ⟨_, rfl⟩
    have hqM : IntKind.i64.wrap ((999999999999999 : Int).tdiv b) = M := hq.trans hM
    rw [hM] at hlaw
    replace A1 := Lib.hid A1
    replace A2 := Lib.hid A2
    obtain ⟨hl1, hl2⟩ := hlaw
    by_cases hgt : M < a
    · have hr : Hid (mulN n s m t = (0, 0, 14)) := by unfold Hid fitN at *; rw [hr1, if_neg (hl1 hgt)]
      clear hr1 hl1 hl2 hq hM hbd hm0
      go_enter Tryd.func27, Tryd.ntmps27
      go_wp2_with fail
      refine (C.out _ _ _ ?_).mono ?_
      · exact NumsAt.two (by simp)
      rintro e w1 ⟨rfl, hb⟩
      
      replace k0 := G.cell (a := ⟨w.heap.size, 0, none⟩) (v := .int .i64 n) (by go_simp) hb
      replace k1 := G.cell (a := ⟨w.heap.size, 1, none⟩) (v := .int .i64 s) (by go_simp) hb
      replace k2 := G.cell (a := ⟨w.heap.size + 1, 0, none⟩) (v := .int .i64 m) (by go_simp) hb
      replace k3 := G.cell (a := ⟨w.heap.size + 1, 1, none⟩) (v := .int .i64 t) (by go_simp) hb
      replace k4 := G.cell (a := ⟨w.heap.size + 1 + 1, 0, none⟩) (v := .int .i64 0) (by go_simp) hb
      replace k5 := G.cell (a := ⟨w.heap.size + 1 + 1, 1, none⟩) (v := .int .i64 0) (by go_simp) hb
      replace lt0 := cell_lt k0
      replace lt1 := cell_lt k1
      replace lt2 := cell_lt k2
      replace lt3 := cell_lt k3
      replace lt4 := cell_lt k4
      replace lt5 := cell_lt k5
      obtain ⟨hc, hf⟩ := G.old hb
      have z0 : w1.frozen? ⟨w.heap.size + 1 + 1, 0, none⟩ = false := (hf _ _ (by simp)).trans (by go_simp)
      have z1 : w1.frozen? ⟨w.heap.size + 1 + 1, 1, none⟩ = false := (hf _ _ (by simp)).trans (by go_simp)
      have hbx : Box2 w1 (w.heap.size + 1 + 1) (.int .i64 0) (.int .i64 0) := ⟨k4, k5, z0, z1⟩
      have hbw : Below w.heap.size w w1 := by repeat (first | with_reducible assumption | with_reducible exact G.refl _ | with_reducible refine G.drew ?_ | with_reducible refine G.drewN ?_ _ | with_reducible refine G.alloc ?_ _ | with_reducible refine Below.setCell ?_ (by first | (simp; done) | (simp; omega)) _ | with_reducible refine G.trans ?_ hb12 | with_reducible refine G.trans ?_ hb11 | with_reducible refine G.trans ?_ hb10 | with_reducible refine G.trans ?_ hb9 | with_reducible refine G.trans ?_ hb8 | with_reducible refine G.trans ?_ hb7 | with_reducible refine G.trans ?_ hb6 | with_reducible refine G.trans ?_ hb5 | with_reducible refine G.trans ?_ hb4 | with_reducible refine G.trans ?_ hb3 | with_reducible refine G.trans ?_ hb2 | with_reducible refine G.trans ?_ hb1 | with_reducible refine G.trans ?_ hb | assumption)
      clear hc hf hb z0 z1
      go_wp2_with fail
      refine wp_region_ord [(0, 1), (1, 1), (2, 1), (3, 1), (4, 1), (5, 1), (6, 1), (7, 1), (8, 1), (10, 1), (11, 1), (9, 2), (12, 2), (13, 1), (14, 1), (15, 1), (16, 1)] [] 5 (by kernel_rfl) (by decide +kernel) ?_
      simp only [pickO, List.getElem?_cons_succ, List.getElem?_cons_zero]
      intro w0 hG
      (repeat ((first | (with_reducible refine ord_q1 ?_) | (with_reducible refine ord_q0 ?_)); intro K hK; first | (refine Or.inr ⟨?_, ?_⟩; (focus (go_simp; first | done | (simp [undef]; done))); go_simp; (with_reducible refine hK _ ?_); clear hK K) | (refine Or.inl ⟨?_, ?_⟩; (focus (go_simp; done)); apply Exists.intro; refine And.intro ?_ ?_; (focus (first | (intro wq hq; obtain ⟨hcq, hfq⟩ := G.old hq; go_simp; (first | done | exact rfl); done) | (intro wq; go_simp; (first | done | exact rfl); done))); go_simp; (with_reducible refine hK _ ?_); clear hK K) | fail))
      (with_reducible refine ord_run ?_ hG)
      intro K hK
      go_simp
      go_at_call 50; (with_reducible refine (A1.out _).mono ?_); rintro e w2 ⟨rfl, rfl⟩; have hb2 := G.refl w0
      replace hG := Grew.trans hG hb2
      (try dsimp only)
      (with_reducible refine hK _ _ hG ?_)
      clear hK K
      (repeat ((first | (with_reducible refine ord_q1 ?_) | (with_reducible refine ord_q0 ?_)); intro K hK; first | (refine Or.inr ⟨?_, ?_⟩; (focus (go_simp; first | done | (simp [undef]; done))); go_simp; (with_reducible refine hK _ ?_); clear hK K) | (refine Or.inl ⟨?_, ?_⟩; (focus (go_simp; done)); apply Exists.intro; refine And.intro ?_ ?_; (focus (first | (intro wq hq; obtain ⟨hcq, hfq⟩ := G.old hq; go_simp; (first | done | exact rfl); done) | (intro wq; go_simp; (first | done | exact rfl); done))); go_simp; (with_reducible refine hK _ ?_); clear hK K) | fail))
      (with_reducible refine ord_run ?_ hG)
      intro K hK
      go_simp
      go_at_call 50; (with_reducible refine (A2.out _).mono ?_); rintro e w2 ⟨rfl, rfl⟩; have hb3 := G.refl w0
      replace hG := Grew.trans hG hb3
      (try dsimp only)
      (with_reducible refine hK _ _ hG ?_)
      clear hK K
      (repeat ((first | (with_reducible refine ord_q1 ?_) | (with_reducible refine ord_q0 ?_)); intro K hK; first | (refine Or.inr ⟨?_, ?_⟩; (focus (go_simp; first | done | (simp [undef]; done))); go_simp; (with_reducible refine hK _ ?_); clear hK K) | (refine Or.inl ⟨?_, ?_⟩; (focus (go_simp; done)); apply Exists.intro; refine And.intro ?_ ?_; (focus (first | (intro wq hq; obtain ⟨hcq, hfq⟩ := G.old hq; go_simp; (first | done | exact rfl); done) | (intro wq; go_simp; (first | done | exact rfl); done))); go_simp; (with_reducible refine hK _ ?_); clear hK K) | fail))
      (with_reducible refine ord_nil ?_)
      have hbw2 := G.trans hbw hG.b
      replace hbx := hbx.grow hG.b
      obtain ⟨r1, r2, r3, r4⟩ := id hbx
      have ltR := hbx.lt
      go_wp2_with fail
      exact bodyPost_ret (v := .tuple #[.agg #[.int .i64 0, .int .i64 0], .int .i64 14]) (by simp only [results, Tryd.results27]; go_simp) rfl ⟨by rw [hr.out], (hbw2.setCell (by simp; omega) _).setCell (by simp; omega) _⟩
    · have hr : Hid (mulN n s m t = fitN (n * m) (s + t)) := hr1
      have hin := hl2 (by omega)
      have FT := Lib.hid (fun w => fit_any (n * m) (s + t) w (by omega) (by omega))
      have hw : IntKind.i64.wrap (n * m) = n * m := IntWalk.i64_in _ (by omega)
      clear hr1 hl1 hl2 hq hM hbd hm0 hin
      go_enter Tryd.func27, Tryd.ntmps27
      go_wp2_with fail
      refine (C.out _ _ _ ?_).mono ?_
      · exact NumsAt.two (by simp)
      rintro e w1 ⟨rfl, hb⟩
      
      replace k0 := G.cell (a := ⟨w.heap.size, 0, none⟩) (v := .int .i64 n) (by go_simp) hb
      replace k1 := G.cell (a := ⟨w.heap.size, 1, none⟩) (v := .int .i64 s) (by go_simp) hb
      replace k2 := G.cell (a := ⟨w.heap.size + 1, 0, none⟩) (v := .int .i64 m) (by go_simp) hb
      replace k3 := G.cell (a := ⟨w.heap.size + 1, 1, none⟩) (v := .int .i64 t) (by go_simp) hb
      replace k4 := G.cell (a := ⟨w.heap.size + 1 + 1, 0, none⟩) (v := .int .i64 0) (by go_simp) hb
      replace k5 := G.cell (a := ⟨w.heap.size + 1 + 1, 1, none⟩) (v := .int .i64 0) (by go_simp) hb
      replace lt0 := cell_lt k0
      replace lt1 := cell_lt k1
      replace lt2 := cell_lt k2
      replace lt3 := cell_lt k3
      replace lt4 := cell_lt k4
      replace lt5 := cell_lt k5
      obtain ⟨hc, hf⟩ := G.old hb
      have z0 : w1.frozen? ⟨w.heap.size + 1 + 1, 0, none⟩ = false := (hf _ _ (by simp)).trans (by go_simp)
      have z1 : w1.frozen? ⟨w.heap.size + 1 + 1, 1, none⟩ = false := (hf _ _ (by simp)).trans (by go_simp)
      have hbx : Box2 w1 (w.heap.size + 1 + 1) (.int .i64 0) (.int .i64 0) := ⟨k4, k5, z0, z1⟩
      have hbw : Below w.heap.size w w1 := by repeat (first | with_reducible assumption | with_reducible exact G.refl _ | with_reducible refine G.drew ?_ | with_reducible refine G.drewN ?_ _ | with_reducible refine G.alloc ?_ _ | with_reducible refine Below.setCell ?_ (by first | (simp; done) | (simp; omega)) _ | with_reducible refine G.trans ?_ hb12 | with_reducible refine G.trans ?_ hb11 | with_reducible refine G.trans ?_ hb10 | with_reducible refine G.trans ?_ hb9 | with_reducible refine G.trans ?_ hb8 | with_reducible refine G.trans ?_ hb7 | with_reducible refine G.trans ?_ hb6 | with_reducible refine G.trans ?_ hb5 | with_reducible refine G.trans ?_ hb4 | with_reducible refine G.trans ?_ hb3 | with_reducible refine G.trans ?_ hb2 | with_reducible refine G.trans ?_ hb1 | with_reducible refine G.trans ?_ hb | assumption)
      clear hc hf hb z0 z1
      go_wp2_with fail
      refine wp_region_ord [(0, 1), (1, 1), (2, 1), (3, 1), (4, 1), (5, 1), (6, 1), (7, 1), (8, 1), (10, 1), (11, 1), (9, 2), (12, 2), (13, 1), (14, 1), (15, 1), (16, 1)] [] 5 (by kernel_rfl) (by decide +kernel) ?_
      simp only [pickO, List.getElem?_cons_succ, List.getElem?_cons_zero]
      intro w0 hG
      (repeat ((first | (with_reducible refine ord_q1 ?_) | (with_reducible refine ord_q0 ?_)); intro K hK; first | (refine Or.inr ⟨?_, ?_⟩; (focus (go_simp; first | done | (simp [undef]; done))); go_simp; (with_reducible refine hK _ ?_); clear hK K) | (refine Or.inl ⟨?_, ?_⟩; (focus (go_simp; done)); apply Exists.intro; refine And.intro ?_ ?_; (focus (first | (intro wq hq; obtain ⟨hcq, hfq⟩ := G.old hq; go_simp; (first | done | exact rfl); done) | (intro wq; go_simp; (first | done | exact rfl); done))); go_simp; (with_reducible refine hK _ ?_); clear hK K) | fail))
      (with_reducible refine ord_run ?_ hG)
      intro K hK
      go_simp
      go_at_call 50; (with_reducible refine (A1.out _).mono ?_); rintro e w2 ⟨rfl, rfl⟩; have hb2 := G.refl w0
      replace hG := Grew.trans hG hb2
      (try dsimp only)
      (with_reducible refine hK _ _ hG ?_)
      clear hK K
      (repeat ((first | (with_reducible refine ord_q1 ?_) | (with_reducible refine ord_q0 ?_)); intro K hK; first | (refine Or.inr ⟨?_, ?_⟩; (focus (go_simp; first | done | (simp [undef]; done))); go_simp; (with_reducible refine hK _ ?_); clear hK K) | (refine Or.inl ⟨?_, ?_⟩; (focus (go_simp; done)); apply Exists.intro; refine And.intro ?_ ?_; (focus (first | (intro wq hq; obtain ⟨hcq, hfq⟩ := G.old hq; go_simp; (first | done | exact rfl); done) | (intro wq; go_simp; (first | done | exact rfl); done))); go_simp; (with_reducible refine hK _ ?_); clear hK K) | fail))
      (with_reducible refine ord_run ?_ hG)
      intro K hK
      go_simp
      go_at_call 50; (with_reducible refine (A2.out _).mono ?_); rintro e w2 ⟨rfl, rfl⟩; have hb3 := G.refl w0
      replace hG := Grew.trans hG hb3
      (try dsimp only)
      (with_reducible refine hK _ _ hG ?_)
      clear hK K
      (repeat ((first | (with_reducible refine ord_q1 ?_) | (with_reducible refine ord_q0 ?_)); intro K hK; first | (refine Or.inr ⟨?_, ?_⟩; (focus (go_simp; first | done | (simp [undef]; done))); go_simp; (with_reducible refine hK _ ?_); clear hK K) | (refine Or.inl ⟨?_, ?_⟩; (focus (go_simp; done)); apply Exists.intro; refine And.intro ?_ ?_; (focus (first | (intro wq hq; obtain ⟨hcq, hfq⟩ := G.old hq; go_simp; (first | done | exact rfl); done) | (intro wq; go_simp; (first | done | exact rfl); done))); go_simp; (with_reducible refine hK _ ?_); clear hK K) | fail))
      (with_reducible refine ord_nil ?_)
      have hbw2 := G.trans hbw hG.b
      replace k0 := G.cell (a := ⟨w.heap.size, 0, none⟩) (v := .int .i64 n) (by go_simp) hG.b
      replace k1 := G.cell (a := ⟨w.heap.size, 1, none⟩) (v := .int .i64 s) (by go_simp) hG.b
      replace k2 := G.cell (a := ⟨w.heap.size + 1, 0, none⟩) (v := .int .i64 m) (by go_simp) hG.b
      replace k3 := G.cell (a := ⟨w.heap.size + 1, 1, none⟩) (v := .int .i64 t) (by go_simp) hG.b
      replace k4 := G.cell (a := ⟨w.heap.size + 1 + 1, 0, none⟩) (v := .int .i64 0) (by go_simp) hG.b
      replace k5 := G.cell (a := ⟨w.heap.size + 1 + 1, 1, none⟩) (v := .int .i64 0) (by go_simp) hG.b
      replace lt0 := cell_lt k0
      replace lt1 := cell_lt k1
      replace lt2 := cell_lt k2
      replace lt3 := cell_lt k3
      replace lt4 := cell_lt k4
      replace lt5 := cell_lt k5
      replace hbx := hbx.grow hG.b
      clear hG
      go_wp2_with fail
      refine (FT.out _).mono ?_
      rintro e w3 ⟨rfl, hb3⟩
      obtain ⟨r1, r2, r3, r4⟩ := hbx.grow hb3
      have ltR := cell_lt r1
      go_wp2_with fail
      exact bodyPost_ret (v := .tuple #[.agg #[.int .i64 (fitN (n * m) (s + t)).1, .int .i64 (fitN (n * m) (s + t)).2.1], .int .i64 (fitN (n * m) (s + t)).2.2]) (by simp only [results, Tryd.results27]; go_simp) rfl ⟨by rw [hr.out], ((G.trans hbw2 hb3).setCell (by simp; omega) _).setCell (by simp; omega) _⟩
theorem mul_any (n s m t : Int) (w : World) (h1 : (Lit.int .i64 n).wf = true) (h2 : (Lit.int .i64 m).wf = true) :
    Calls Tryd.prog 27 #[.agg #[.int .i64 n, .int .i64 s], .agg #[.int .i64 m, .int .i64 t]] w (RetF (mulN n s m t) w) := by
  by_cases h : okN n s = true ∧ okN m t = true
  · exact mul_ok n s m t w h.1 h.2
  · exact mul_bad n s m t w h1 h2 h
end Go.Proofs.YtoipapcbngknfaaDoor
