/- The law StampChildren returns true: the walk. -/
import Derived.Test.YtjldpodehffbnaaDoorKnown
import Derived.Test.YtjldpodehffbnaaDoorOrd
import Derived.Test.YtjldpodehffbnaaDoorLawParents
import Derived.Test.YtjldpodehffbnaaDoorLawDescends
namespace Go.Proofs.YtjldpodehffbnaaDoor
set_option linter.unusedVariables false
set_option linter.unnecessarySimpa false
set_option linter.unusedSimpArgs false
open Go.RowKit

theorem childErr_ok {e k : Int} {xs : List Int} (h : childErr e xs k = 0) : checkS e xs = 0 ∧ xs.length ≠ 512 ∧ 0 ≤ k ∧ k ≤ 65535 := by
  unfold childErr at h
  by_cases h1 : checkS e xs = 0
  · rw [if_neg (by simp [h1])] at h
    by_cases h2 : xs.length = 512
    · rw [if_pos h2] at h; cases h
    · rw [if_neg h2] at h
      by_cases h3 : k < 0 ∨ 65535 < k
      · rw [if_pos h3] at h; cases h
      · exact ⟨h1, h2, by omega, by omega⟩
  · rw [if_pos h1] at h; exact absurd h h1
theorem getD_app {xs ys : List Int} {i : Nat} (h : i < xs.length) : (xs ++ ys).getD i 0 = xs.getD i 0 := by
  simp only [List.getD, List.getElem?_append_left h]
theorem checkS_child {e k : Int} {xs : List Int} (h : childErr e xs k = 0) : checkS e (xs ++ [k]) = 0 := by
  obtain ⟨h1, h2, h3, h4⟩ := childErr_ok h
  obtain ⟨h5, h6, h7, h8, h9⟩ := checkS_ok h1
  have hl : (xs ++ [k]).length = xs.length + 1 := by simp
  have hb : (xs ++ [k]).any badI = false := by
    rw [List.any_append, h9]
    have h10 : badI k = false := badI_no (by omega) (by omega)
    simp [h10]
  have g0 := getD_app (ys := [k]) (show 0 < xs.length by omega)
  unfold checkS at h1 ⊢
  rw [if_neg (by omega), if_neg h7, if_neg (by omega), if_neg (by simp [h9])] at h1
  rw [if_neg (by omega), if_neg (by omega), if_neg (by omega), if_neg (by rw [hb]; simp), g0]
  by_cases c1 : 1 < xs.getD 0 0
  · rw [if_pos c1] at h1; cases h1
  rw [if_neg c1] at h1 ⊢
  by_cases c2 : xs.getD 0 0 = 1
  · rw [if_pos c2]
  rw [if_neg c2] at h1 ⊢
  by_cases c3 : xs.length = 1
  · rw [if_pos c3] at h1; cases h1
  rw [if_neg c3] at h1
  rw [if_neg (by omega), getD_app (show 1 < xs.length by omega)]
  exact h1
theorem cmpL_longer : ∀ (xs : List Int) (k : Int) (ts : List Int), cmpL xs (xs ++ k :: ts) = -1
  | [], _, _ => rfl
  | x :: xs, k, ts => by
    simp only [List.cons_append, cmpL]
    rw [if_pos (cmpI_zero.2 rfl)]
    exact cmpL_longer xs k ts

set_option maxRecDepth 20000 in set_option maxHeartbeats 400000 in
theorem stampChildren_any (e : Int) (A : Option Addr) (n c : Nat) (xs : List Int) (k : Int) (w : World) (hs : StIs w e A n c xs) (hk : (Lit.int .i64 k).wf = true) (ht : Pow10 w) :
    Calls Tryd.prog 8 #[.agg #[.int .i64 e, .slice A n c], .int .i64 k] w fun e' w' => e' = .returned (.bool true) ∧ Below w.heap.size w w' := by
  obtain ⟨ys, hxt, hmin, hmc, hnc, hcm, h6⟩ := hs.cut'
  have htt := Lib.hid ht
  clear ht hk
  go_enter Tryd.func8, Tryd.ntmps8
  go_wp2_with fail
  refine (short_any e A n c _ hnc hcm).mono ?_
  rintro e' w1 ⟨rfl, hb⟩
  generalize min n 600 = m at *
  
  replace k0 := G.cell (a := ⟨w.heap.size, 0, none⟩) (v := .int .i64 e) (by go_simp) hb
  replace k1 := G.cell (a := ⟨w.heap.size, 1, none⟩) (v := .slice A n c) (by go_simp) hb
  replace lt0 := cell_lt k0
  replace lt1 := cell_lt k1
  obtain ⟨hc, hf⟩ := G.old hb
  have hb0 : Below w.heap.size w w1 := by repeat (first | with_reducible assumption | with_reducible exact G.refl _ | with_reducible refine G.drew ?_ | with_reducible refine G.drewN ?_ _ | with_reducible refine G.alloc ?_ _ | with_reducible refine Below.setCell ?_ (by first | (simp; done) | (simp; omega)) _ | with_reducible refine G.trans ?_ hb12 | with_reducible refine G.trans ?_ hb11 | with_reducible refine G.trans ?_ hb10 | with_reducible refine G.trans ?_ hb9 | with_reducible refine G.trans ?_ hb8 | with_reducible refine G.trans ?_ hb7 | with_reducible refine G.trans ?_ hb6 | with_reducible refine G.trans ?_ hb5 | with_reducible refine G.trans ?_ hb4 | with_reducible refine G.trans ?_ hb3 | with_reducible refine G.trans ?_ hb2 | with_reducible refine G.trans ?_ hb1 | with_reducible refine G.trans ?_ hb | assumption)
  go_wp2_with fail
  refine calls_name (fun w3 => Below w.heap.size w w3 ∧ w3.cell? ⟨w.heap.size, 0, none⟩ = some (.int .i64 e) ∧ w3.cell? ⟨w.heap.size, 1, none⟩ = some (.slice A m c)) ⟨by repeat (first | with_reducible assumption | with_reducible exact G.refl _ | with_reducible refine G.drew ?_ | with_reducible refine G.drewN ?_ _ | with_reducible refine G.alloc ?_ _ | with_reducible refine Below.setCell ?_ (by first | (simp; done) | (simp; omega)) _ | with_reducible refine G.trans ?_ hb12 | with_reducible refine G.trans ?_ hb11 | with_reducible refine G.trans ?_ hb10 | with_reducible refine G.trans ?_ hb9 | with_reducible refine G.trans ?_ hb8 | with_reducible refine G.trans ?_ hb7 | with_reducible refine G.trans ?_ hb6 | with_reducible refine G.trans ?_ hb5 | with_reducible refine G.trans ?_ hb4 | with_reducible refine G.trans ?_ hb3 | with_reducible refine G.trans ?_ hb2 | with_reducible refine G.trans ?_ hb1 | with_reducible refine G.trans ?_ hb | assumption), by go_simp, by go_simp⟩ ?_
  clear k0 k1 lt0 lt1 hc hf hb hb0 w1
  rintro w2 ⟨hb0, j0, j1⟩
  have hx2 := hxt.grow hb0
  have ht2 := Lib.hid (htt.out.grow hb0)
  have lt0 := cell_lt j0
  have hl := Lib.hid hx2.len
  have hC := Lib.hid (fun w hx => lcheck_any e A m c ys w hx hmin)
  clear hxt htt hs
  
  by_cases h0 : childErr e ys k = 0
  · have hL := Lib.hid (checkS_child h0)
    obtain ⟨h1, h2, h3, h4⟩ := childErr_ok h0
    have h01 := checkS_first h1
    rw [h1] at hC
    have hm5 := (checkS_ok h1).2.2.2.1
    have hm0 := (checkS_ok h1).2.2.1
    rw [hl.out] at hm5 hm0 h2
    have B1 := Lib.hid (fun w hx => child_ok e k A m c ys w hx hmc hcm h0)
    have hlk : (ys ++ [k]).length = m + 1 := by rw [List.length_append, hl.out]; rfl
    have hg0 : (ys ++ [k]).getD 0 0 = ys.getD 0 0 := getD_app (by rw [hl.out]; omega)
    have hge : ¬ ((m + 1 : Nat) : Int) ≤ 2 - (ys ++ [k]).getD 0 0 := by
      rw [hg0]
      rcases Int.lt_or_le 0 (ys.getD 0 0) with h | h
      · omega
      · have h7 : ys.getD 0 0 = 0 := by omega
        have h8 : m ≠ 1 := by
          rintro rfl
          unfold checkS at h1
          obtain ⟨q1, q2, q3, q4, q5⟩ := checkS_ok (by unfold checkS; exact h1)
          rw [if_neg (by omega), if_neg q3, if_neg (by omega), if_neg (by simp [q5]), if_neg (by omega), if_neg (by omega), if_pos hl.out] at h1
          cases h1
        omega
    have hwf : 0 ≤ (ys ++ [k]).getD 0 0 ∧ (ys ++ [k]).getD 0 0 ≤ 1 := by rw [hg0]; exact h01
    have P1 := Lib.hid (fun w A' c' hx hnc' hcm' => parent_yes e A' (m + 1) c' (ys ++ [k]) w hx hnc' hcm' hL.out hge hwf)
    have htk : (ys ++ [k]).take (m + 1 - 1) = ys := by rw [Nat.add_sub_cancel, List.take_left' hl.out]
    rw [htk] at P1
    have hcS : Hid (cmpS e ys e (ys ++ [k]) = -1) := by unfold Hid; rw [cmpS_same]; exact cmpL_longer ys k []
    have hdS : Hid (descS e (ys ++ [k]) e ys = true) := by unfold Hid; rw [descS_joined]; simp
    have hS1 : Hid (decide (cmpS e (ys ++ [k]) e (ys ++ [k]) = 0) = true) := by unfold Hid; simp [cmpS_zero.2 (And.intro (Eq.refl e) (Eq.refl (ys ++ [k])))]
    have hS2 : Hid (decide (cmpS e ys e ys = 0) = true) := by unfold Hid; simp [cmpS_zero.2 (And.intro (Eq.refl e) (Eq.refl ys))]
    have hlk' := Lib.hid hlk
    have h2b : ((m : Int) == 512) = false := by simp; omega
    have h3a : ¬ k < 0 := by omega
    have h3b : ¬ 65535 < k := by omega
    clear h0 h1 h01 hlk hg0 hge hwf htk
    refine (B1.out _ hx2).mono ?_
    rintro e' w3 ⟨A3, c3, rfl, hs3, hl3, hm3, ha3, hb3⟩
    rw [hlk'.out] at hs3 hl3 ⊢
    replace j0 := G.cell j0 hb3
    replace j1 := G.cell j1 hb3
    replace lt0 := cell_lt j0
    go_wp2_with fail
    refine (known_any _ (ht2.out.grow (by repeat (first | with_reducible assumption | with_reducible exact G.refl _ | with_reducible refine G.drew ?_ | with_reducible refine G.drewN ?_ _ | with_reducible refine G.alloc ?_ _ | with_reducible refine Below.setCell ?_ (by first | (simp; done) | (simp; omega)) _ | with_reducible refine G.trans ?_ hb12 | with_reducible refine G.trans ?_ hb11 | with_reducible refine G.trans ?_ hb10 | with_reducible refine G.trans ?_ hb9 | with_reducible refine G.trans ?_ hb8 | with_reducible refine G.trans ?_ hb7 | with_reducible refine G.trans ?_ hb6 | with_reducible refine G.trans ?_ hb5 | with_reducible refine G.trans ?_ hb4 | with_reducible refine G.trans ?_ hb3 | with_reducible refine G.trans ?_ hb2 | with_reducible refine G.trans ?_ hb1 | with_reducible refine G.trans ?_ hb | assumption)))).mono ?_
    rintro e' w4 ⟨rfl, hb4⟩
    
    replace k0 := G.cell (a := ⟨w.heap.size, 0, none⟩) (v := .int .i64 e) (by go_simp) hb4
    replace k1 := G.cell (a := ⟨w.heap.size, 1, none⟩) (v := .slice A m c) (by go_simp) hb4
    replace k2 := G.cell (a := ⟨w3.heap.size, 0, none⟩) (v := .int .i64 e) (by go_simp) hb4
    replace k3 := G.cell (a := ⟨w3.heap.size, 1, none⟩) (v := .slice A3 (m + 1) c3) (by go_simp) hb4
    replace lt0 := cell_lt k0
    replace lt1 := cell_lt k1
    replace lt2 := cell_lt k2
    replace lt3 := cell_lt k3
    go_wp2_with fail
    refine (hC.out _ (hx2.grow (by repeat (first | with_reducible assumption | with_reducible exact G.refl _ | with_reducible refine G.drew ?_ | with_reducible refine G.drewN ?_ _ | with_reducible refine G.alloc ?_ _ | with_reducible refine Below.setCell ?_ (by first | (simp; done) | (simp; omega)) _ | with_reducible refine G.trans ?_ hb12 | with_reducible refine G.trans ?_ hb11 | with_reducible refine G.trans ?_ hb10 | with_reducible refine G.trans ?_ hb9 | with_reducible refine G.trans ?_ hb8 | with_reducible refine G.trans ?_ hb7 | with_reducible refine G.trans ?_ hb6 | with_reducible refine G.trans ?_ hb5 | with_reducible refine G.trans ?_ hb4 | with_reducible refine G.trans ?_ hb3 | with_reducible refine G.trans ?_ hb2 | with_reducible refine G.trans ?_ hb1 | with_reducible refine G.trans ?_ hb | assumption)))).mono ?_
    rintro e' w5 ⟨rfl, hb5⟩
    replace k0 := G.cell (a := ⟨w.heap.size, 0, none⟩) (v := .int .i64 e) (by go_simp) hb5
    replace k1 := G.cell (a := ⟨w.heap.size, 1, none⟩) (v := .slice A m c) (by go_simp) hb5
    replace k2 := G.cell (a := ⟨w3.heap.size, 0, none⟩) (v := .int .i64 e) (by go_simp) hb5
    replace k3 := G.cell (a := ⟨w3.heap.size, 1, none⟩) (v := .slice A3 (m + 1) c3) (by go_simp) hb5
    replace lt0 := cell_lt k0
    replace lt1 := cell_lt k1
    replace lt2 := cell_lt k2
    replace lt3 := cell_lt k3
    go_wp2_with fail
    refine (P1.out _ A3 c3 (by repeat (first | with_reducible assumption | with_reducible exact Sl.new' (by simp; done) (by simp; done) (by simp; done) | with_reducible refine Sl.drew ?_ | with_reducible refine Sl.drewN ?_ _ | with_reducible refine Sl.alloc ?_ _ | with_reducible refine Sl.grow ?_ hb12 | with_reducible refine Sl.grow ?_ hb11 | with_reducible refine Sl.grow ?_ hb10 | with_reducible refine Sl.grow ?_ hb9 | with_reducible refine Sl.grow ?_ hb8 | with_reducible refine Sl.grow ?_ hb7 | with_reducible refine Sl.grow ?_ hb6 | with_reducible refine Sl.grow ?_ hb5 | with_reducible refine Sl.grow ?_ hb4 | with_reducible refine Sl.grow ?_ hb3 | with_reducible refine Sl.grow ?_ hb2 | with_reducible refine Sl.grow ?_ hb1 | with_reducible refine Sl.grow ?_ hb | assumption)) hl3 hm3).mono ?_
    rintro e' w6 ⟨A6, c6, rfl, hs6, hl6, hm6, ha6, hb6⟩
    rw [hl.out] at hs6 hl6 ⊢
    replace k0 := G.cell (a := ⟨w.heap.size, 0, none⟩) (v := .int .i64 e) (by go_simp) hb6
    replace k1 := G.cell (a := ⟨w.heap.size, 1, none⟩) (v := .slice A m c) (by go_simp) hb6
    replace k2 := G.cell (a := ⟨w3.heap.size, 0, none⟩) (v := .int .i64 e) (by go_simp) hb6
    replace k3 := G.cell (a := ⟨w3.heap.size, 1, none⟩) (v := .slice A3 (m + 1) c3) (by go_simp) hb6
    replace lt0 := cell_lt k0
    replace lt1 := cell_lt k1
    replace lt2 := cell_lt k2
    replace lt3 := cell_lt k3
    have hbw6 : Below w2.heap.size w2 w6 := by repeat (first | with_reducible assumption | with_reducible exact G.refl _ | with_reducible refine G.drew ?_ | with_reducible refine G.drewN ?_ _ | with_reducible refine G.alloc ?_ _ | with_reducible refine Below.setCell ?_ (by first | (simp; done) | (simp; omega)) _ | with_reducible refine G.trans ?_ hb12 | with_reducible refine G.trans ?_ hb11 | with_reducible refine G.trans ?_ hb10 | with_reducible refine G.trans ?_ hb9 | with_reducible refine G.trans ?_ hb8 | with_reducible refine G.trans ?_ hb7 | with_reducible refine G.trans ?_ hb6 | with_reducible refine G.trans ?_ hb5 | with_reducible refine G.trans ?_ hb4 | with_reducible refine G.trans ?_ hb3 | with_reducible refine G.trans ?_ hb2 | with_reducible refine G.trans ?_ hb1 | with_reducible refine G.trans ?_ hb | assumption)
    have hs3' : Sl w6 A3 (m + 1) (i64s (ys ++ [k])) := by repeat (first | with_reducible assumption | with_reducible exact Sl.new' (by simp; done) (by simp; done) (by simp; done) | with_reducible refine Sl.drew ?_ | with_reducible refine Sl.drewN ?_ _ | with_reducible refine Sl.alloc ?_ _ | with_reducible refine Sl.grow ?_ hb12 | with_reducible refine Sl.grow ?_ hb11 | with_reducible refine Sl.grow ?_ hb10 | with_reducible refine Sl.grow ?_ hb9 | with_reducible refine Sl.grow ?_ hb8 | with_reducible refine Sl.grow ?_ hb7 | with_reducible refine Sl.grow ?_ hb6 | with_reducible refine Sl.grow ?_ hb5 | with_reducible refine Sl.grow ?_ hb4 | with_reducible refine Sl.grow ?_ hb3 | with_reducible refine Sl.grow ?_ hb2 | with_reducible refine Sl.grow ?_ hb1 | with_reducible refine Sl.grow ?_ hb | assumption)
    go_wp2_with fail
    refine wp_name (fun w7 => Below w6.heap.size w6 w7 ∧ w7.cell? ⟨w.heap.size, 0, none⟩ = some (.int .i64 e) ∧ w7.cell? ⟨w.heap.size, 1, none⟩ = some (.slice A m c) ∧ w7.cell? ⟨w3.heap.size, 0, none⟩ = some (.int .i64 e) ∧ w7.cell? ⟨w3.heap.size, 1, none⟩ = some (.slice A3 (m + 1) c3) ∧ w7.cell? ⟨w6.heap.size, 0, none⟩ = some (.int .i64 e) ∧ w7.cell? ⟨w6.heap.size, 1, none⟩ = some (.slice A6 m c6)) ⟨by repeat (first | with_reducible assumption | with_reducible exact G.refl _ | with_reducible refine G.drew ?_ | with_reducible refine G.drewN ?_ _ | with_reducible refine G.alloc ?_ _ | with_reducible refine Below.setCell ?_ (by first | (simp; done) | (simp; omega)) _ | with_reducible refine G.trans ?_ hb12 | with_reducible refine G.trans ?_ hb11 | with_reducible refine G.trans ?_ hb10 | with_reducible refine G.trans ?_ hb9 | with_reducible refine G.trans ?_ hb8 | with_reducible refine G.trans ?_ hb7 | with_reducible refine G.trans ?_ hb6 | with_reducible refine G.trans ?_ hb5 | with_reducible refine G.trans ?_ hb4 | with_reducible refine G.trans ?_ hb3 | with_reducible refine G.trans ?_ hb2 | with_reducible refine G.trans ?_ hb1 | with_reducible refine G.trans ?_ hb | assumption), by go_simp, by go_simp, by go_simp, by go_simp, by go_simp, by go_simp⟩ ?_
    rintro w7 ⟨hb7, d0, d1, d2, d3, d4, d5⟩
    have hxs := (hx2.grow hbw6).grow hb7
    have hxc := hs3'.grow hb7
    have hxp := hs6.grow hb7
    have hbw7 : Below w.heap.size w w7 := by repeat (first | with_reducible assumption | with_reducible exact G.refl _ | with_reducible refine G.drew ?_ | with_reducible refine G.drewN ?_ _ | with_reducible refine G.alloc ?_ _ | with_reducible refine Below.setCell ?_ (by first | (simp; done) | (simp; omega)) _ | with_reducible refine G.trans ?_ hb12 | with_reducible refine G.trans ?_ hb11 | with_reducible refine G.trans ?_ hb10 | with_reducible refine G.trans ?_ hb9 | with_reducible refine G.trans ?_ hb8 | with_reducible refine G.trans ?_ hb7 | with_reducible refine G.trans ?_ hb6 | with_reducible refine G.trans ?_ hb5 | with_reducible refine G.trans ?_ hb4 | with_reducible refine G.trans ?_ hb3 | with_reducible refine G.trans ?_ hb2 | with_reducible refine G.trans ?_ hb1 | with_reducible refine G.trans ?_ hb | assumption)
    have lts := cell_lt d0
    have ltc := cell_lt d2
    have ltp := cell_lt d4
    clear j0 j1 lt0 k0 k1 k2 k3 lt1 lt2 lt3 hb3 hb4 hb5 hb6 hb7 hs3 hs6 hs3' hbw6 hx2 ht2
    have hk1 : m + 1 ≤ maxLen := by unfold maxLen; omega
    refine wp_region_ord [(0, 1), (1, 1), (2, 1), (3, 2), (4, 2), (5, 2), (6, 1), (7, 1), (8, 1), (9, 1), (10, 1), (11, 1), (12, 2), (13, 1), (14, 1), (15, 1), (16, 1), (17, 2), (18, 1), (19, 1), (20, 1), (21, 1), (22, 1), (23, 2), (24, 1), (25, 1)] [] 5 (by kernel_rfl) (by decide +kernel) ?_
    simp only [pickO, List.getElem?_cons_succ, List.getElem?_cons_zero]
    intro w0 hG
    (repeat ((first | (with_reducible refine ord_q1 ?_) | (with_reducible refine ord_q0 ?_)); intro K hK; first | (refine Or.inr ⟨?_, ?_⟩; (focus (go_simp; done)); go_simp; (with_reducible refine hK _ ?_); clear hK K) | (refine Or.inl ⟨?_, ?_⟩; (focus (go_simp; done)); apply Exists.intro; refine And.intro ?_ ?_; (focus (first | (intro wq hq; obtain ⟨hcq, hfq⟩ := G.old hq; go_simp; (first | done | exact rfl); done) | (intro wq; go_simp; (first | done | exact rfl); done))); go_simp; (with_reducible refine hK _ ?_); clear hK K) | fail))
    (with_reducible refine ord_run ?_ hG)
    intro K hK
    go_simp
    replace hG := Grew.alloc hG (.cells #[.int .i64 k] 3)
    (with_reducible refine hK _ _ hG ?_)
    clear hK K
    (repeat ((first | (with_reducible refine ord_q1 ?_) | (with_reducible refine ord_q0 ?_)); intro K hK; first | (refine Or.inr ⟨?_, ?_⟩; (focus (go_simp; done)); go_simp; (with_reducible refine hK _ ?_); clear hK K) | (refine Or.inl ⟨?_, ?_⟩; (focus (go_simp; done)); apply Exists.intro; refine And.intro ?_ ?_; (focus (first | (intro wq hq; obtain ⟨hcq, hfq⟩ := G.old hq; go_simp; (first | done | exact rfl); done) | (intro wq; go_simp; (first | done | exact rfl); done))); go_simp; (with_reducible refine hK _ ?_); clear hK K) | fail))
    (with_reducible refine ord_run ?_ hG)
    intro K hK
    go_simp
    go_at_call 20; (with_reducible refine (joined_len e A (some ⟨w0.heap.size, 0, none⟩) m c 1 1 ys [k] _ (hxs.grow hG.b) ?_ h6 (by omega)).mono ?_); (focus (repeat (first | with_reducible assumption | with_reducible exact Sl.new' (by simp; done) (by simp; done) (by simp; done) | with_reducible refine Sl.drew ?_ | with_reducible refine Sl.drewN ?_ _ | with_reducible refine Sl.alloc ?_ _ | with_reducible refine Sl.grow ?_ hb12 | with_reducible refine Sl.grow ?_ hb11 | with_reducible refine Sl.grow ?_ hb10 | with_reducible refine Sl.grow ?_ hb9 | with_reducible refine Sl.grow ?_ hb8 | with_reducible refine Sl.grow ?_ hb7 | with_reducible refine Sl.grow ?_ hb6 | with_reducible refine Sl.grow ?_ hb5 | with_reducible refine Sl.grow ?_ hb4 | with_reducible refine Sl.grow ?_ hb3 | with_reducible refine Sl.grow ?_ hb2 | with_reducible refine Sl.grow ?_ hb1 | with_reducible refine Sl.grow ?_ hb | assumption))); rintro e' w9 ⟨A9, c9, rfl, hs9, hl9, hm9, hb8⟩
    replace hG := Grew.trans hG hb8
    (try dsimp only)
    (with_reducible refine hK _ _ hG ?_)
    clear hK K
    (repeat ((first | (with_reducible refine ord_q1 ?_) | (with_reducible refine ord_q0 ?_)); intro K hK; first | (refine Or.inr ⟨?_, ?_⟩; (focus (go_simp; done)); go_simp; (with_reducible refine hK _ ?_); clear hK K) | (refine Or.inl ⟨?_, ?_⟩; (focus (go_simp; done)); apply Exists.intro; refine And.intro ?_ ?_; (focus (first | (intro wq hq; obtain ⟨hcq, hfq⟩ := G.old hq; go_simp; (first | done | exact rfl); done) | (intro wq; go_simp; (first | done | exact rfl); done))); go_simp; (with_reducible refine hK _ ?_); clear hK K) | fail))
    (with_reducible refine ord_run ?_ hG)
    intro K hK
    go_simp
    go_at_call 23; (with_reducible refine (same_any e e A3 A9 (m + 1) (m + 1) c3 c9 (ys ++ [k]) (ys ++ [k]) _ (hxc.grow hG.b) hs9 hk1 hk1).mono ?_); rintro e' w10 ⟨rfl, hb9⟩; rw [hS1.out]
    replace hG := Grew.trans hG hb9
    (try dsimp only)
    (with_reducible refine hK _ _ hG ?_)
    clear hK K
    (repeat ((first | (with_reducible refine ord_q1 ?_) | (with_reducible refine ord_q0 ?_)); intro K hK; first | (refine Or.inr ⟨?_, ?_⟩; (focus (go_simp; done)); go_simp; (with_reducible refine hK _ ?_); clear hK K) | (refine Or.inl ⟨?_, ?_⟩; (focus (go_simp; done)); apply Exists.intro; refine And.intro ?_ ?_; (focus (first | (intro wq hq; obtain ⟨hcq, hfq⟩ := G.old hq; go_simp; (first | done | exact rfl); done) | (intro wq; go_simp; (first | done | exact rfl); done))); go_simp; (with_reducible refine hK _ ?_); clear hK K) | fail))
    (with_reducible refine ord_run ?_ hG)
    intro K hK
    go_simp
    go_at_call 23; (with_reducible refine (same_any e e A6 A m m c6 c ys ys _ (hxp.grow hG.b) (hxs.grow hG.b) hmin hmin).mono ?_); rintro e' w11 ⟨rfl, hb10⟩; rw [hS2.out]
    replace hG := Grew.trans hG hb10
    (try dsimp only)
    (with_reducible refine hK _ _ hG ?_)
    clear hK K
    (repeat ((first | (with_reducible refine ord_q1 ?_) | (with_reducible refine ord_q0 ?_)); intro K hK; first | (refine Or.inr ⟨?_, ?_⟩; (focus (go_simp; done)); go_simp; (with_reducible refine hK _ ?_); clear hK K) | (refine Or.inl ⟨?_, ?_⟩; (focus (go_simp; done)); apply Exists.intro; refine And.intro ?_ ?_; (focus (first | (intro wq hq; obtain ⟨hcq, hfq⟩ := G.old hq; go_simp; (first | done | exact rfl); done) | (intro wq; go_simp; (first | done | exact rfl); done))); go_simp; (with_reducible refine hK _ ?_); clear hK K) | fail))
    (with_reducible refine ord_run ?_ hG)
    intro K hK
    go_simp
    go_at_call 24; (with_reducible refine (compare_any e e A A3 m (m + 1) c c3 ys (ys ++ [k]) _ (hxs.grow hG.b) (hxc.grow hG.b) hmin).mono ?_); rintro e' w12 ⟨rfl, hb11⟩; rw [hcS.out]
    replace hG := Grew.trans hG hb11
    (try dsimp only)
    (with_reducible refine hK _ _ hG ?_)
    clear hK K
    (repeat ((first | (with_reducible refine ord_q1 ?_) | (with_reducible refine ord_q0 ?_)); intro K hK; first | (refine Or.inr ⟨?_, ?_⟩; (focus (go_simp; done)); go_simp; (with_reducible refine hK _ ?_); clear hK K) | (refine Or.inl ⟨?_, ?_⟩; (focus (go_simp; done)); apply Exists.intro; refine And.intro ?_ ?_; (focus (first | (intro wq hq; obtain ⟨hcq, hfq⟩ := G.old hq; go_simp; (first | done | exact rfl); done) | (intro wq; go_simp; (first | done | exact rfl); done))); go_simp; (with_reducible refine hK _ ?_); clear hK K) | fail))
    (with_reducible refine ord_run ?_ hG)
    intro K hK
    go_simp
    go_at_call 18; (with_reducible refine (descends_any e e A3 A (m + 1) m c3 c (ys ++ [k]) ys _ (hxc.grow hG.b) (hxs.grow hG.b) hmin hl3).mono ?_); rintro e' w13 ⟨rfl, hb12⟩; rw [hdS.out]
    replace hG := Grew.trans hG hb12
    (try dsimp only)
    (with_reducible refine hK _ _ hG ?_)
    clear hK K
    (repeat ((first | (with_reducible refine ord_q1 ?_) | (with_reducible refine ord_q0 ?_)); intro K hK; first | (refine Or.inr ⟨?_, ?_⟩; (focus (go_simp; done)); go_simp; (with_reducible refine hK _ ?_); clear hK K) | (refine Or.inl ⟨?_, ?_⟩; (focus (go_simp; done)); apply Exists.intro; refine And.intro ?_ ?_; (focus (first | (intro wq hq; obtain ⟨hcq, hfq⟩ := G.old hq; go_simp; (first | done | exact rfl); done) | (intro wq; go_simp; (first | done | exact rfl); done))); go_simp; (with_reducible refine hK _ ?_); clear hK K) | fail))
    (with_reducible refine ord_nil ?_)
    go_wp2
    go_ret
    exact ⟨rfl, G.trans hbw7 hG.b⟩
  · have hE : ∃ z, Hid (childErr e ys k = z) := ⟨_, rfl⟩
    obtain ⟨z, hz⟩ := hE
    have hz0 : z ≠ 0 := by rw [← hz.out]; exact h0
    have hzb : (z != 0) = true := by simp [hz0]
    have hzz : (z != z) = false := by simp
    have B1 := Lib.hid (fun w hx => child_bad e k A m c ys w hx hmin h0)
    rw [hz.out] at B1
    have hcase : (checkS e ys = z) ∨ (checkS e ys = 0 ∧ m = 512 ∧ z = 9) ∨ (checkS e ys = 0 ∧ m ≠ 512 ∧ (k < 0 ∨ 65535 < k) ∧ z = 2) := by
      have := hz.out
      unfold childErr at this
      rw [hl.out] at this
      by_cases q1 : checkS e ys = 0
      · rw [if_neg (by simp [q1])] at this
        by_cases q2 : m = 512
        · rw [if_pos q2] at this; exact .inr (.inl ⟨q1, q2, this.symm⟩)
        · rw [if_neg q2] at this
          by_cases q3 : k < 0 ∨ 65535 < k
          · rw [if_pos q3] at this; exact .inr (.inr ⟨q1, q2, q3, this.symm⟩)
          · rw [if_neg q3] at this; exact absurd this.symm hz0
      · rw [if_pos q1] at this; exact .inl this
    have hcase' := Lib.hid hcase
    have hS : Hid (cmpS 0 [] 0 [] = 0) := rfl
    clear h0 hcase
    generalize checkS e ys = v at *
    refine (B1.out _ hx2).mono ?_
    rintro e' w3 ⟨A3, c3, rfl, hs3, hl3, hm3, ha3, hb3⟩
    simp only [List.length_nil] at hs3 hl3 ⊢
    replace j0 := G.cell j0 hb3
    replace j1 := G.cell j1 hb3
    replace lt0 := cell_lt j0
    go_wp2_with fail
    refine (known_any _ (ht2.out.grow (by repeat (first | with_reducible assumption | with_reducible exact G.refl _ | with_reducible refine G.drew ?_ | with_reducible refine G.drewN ?_ _ | with_reducible refine G.alloc ?_ _ | with_reducible refine Below.setCell ?_ (by first | (simp; done) | (simp; omega)) _ | with_reducible refine G.trans ?_ hb12 | with_reducible refine G.trans ?_ hb11 | with_reducible refine G.trans ?_ hb10 | with_reducible refine G.trans ?_ hb9 | with_reducible refine G.trans ?_ hb8 | with_reducible refine G.trans ?_ hb7 | with_reducible refine G.trans ?_ hb6 | with_reducible refine G.trans ?_ hb5 | with_reducible refine G.trans ?_ hb4 | with_reducible refine G.trans ?_ hb3 | with_reducible refine G.trans ?_ hb2 | with_reducible refine G.trans ?_ hb1 | with_reducible refine G.trans ?_ hb | assumption)))).mono ?_
    rintro e' w4 ⟨rfl, hb4⟩
    
    replace k0 := G.cell (a := ⟨w.heap.size, 0, none⟩) (v := .int .i64 e) (by go_simp) hb4
    replace k1 := G.cell (a := ⟨w.heap.size, 1, none⟩) (v := .slice A m c) (by go_simp) hb4
    replace k2 := G.cell (a := ⟨w3.heap.size, 0, none⟩) (v := .int .i64 0) (by go_simp) hb4
    replace k3 := G.cell (a := ⟨w3.heap.size, 1, none⟩) (v := .slice A3 0 c3) (by go_simp) hb4
    replace lt0 := cell_lt k0
    replace lt1 := cell_lt k1
    replace lt2 := cell_lt k2
    replace lt3 := cell_lt k3
    go_wp2_with fail
    refine (hC.out _ (hx2.grow (by repeat (first | with_reducible assumption | with_reducible exact G.refl _ | with_reducible refine G.drew ?_ | with_reducible refine G.drewN ?_ _ | with_reducible refine G.alloc ?_ _ | with_reducible refine Below.setCell ?_ (by first | (simp; done) | (simp; omega)) _ | with_reducible refine G.trans ?_ hb12 | with_reducible refine G.trans ?_ hb11 | with_reducible refine G.trans ?_ hb10 | with_reducible refine G.trans ?_ hb9 | with_reducible refine G.trans ?_ hb8 | with_reducible refine G.trans ?_ hb7 | with_reducible refine G.trans ?_ hb6 | with_reducible refine G.trans ?_ hb5 | with_reducible refine G.trans ?_ hb4 | with_reducible refine G.trans ?_ hb3 | with_reducible refine G.trans ?_ hb2 | with_reducible refine G.trans ?_ hb1 | with_reducible refine G.trans ?_ hb | assumption)))).mono ?_
    rintro e' w5 ⟨rfl, hb5⟩
    replace k0 := G.cell (a := ⟨w.heap.size, 0, none⟩) (v := .int .i64 e) (by go_simp) hb5
    replace k1 := G.cell (a := ⟨w.heap.size, 1, none⟩) (v := .slice A m c) (by go_simp) hb5
    replace k2 := G.cell (a := ⟨w3.heap.size, 0, none⟩) (v := .int .i64 0) (by go_simp) hb5
    replace k3 := G.cell (a := ⟨w3.heap.size, 1, none⟩) (v := .slice A3 0 c3) (by go_simp) hb5
    replace lt0 := cell_lt k0
    replace lt1 := cell_lt k1
    replace lt2 := cell_lt k2
    replace lt3 := cell_lt k3
    have hbw5 : Below w.heap.size w w5 := by repeat (first | with_reducible assumption | with_reducible exact G.refl _ | with_reducible refine G.drew ?_ | with_reducible refine G.drewN ?_ _ | with_reducible refine G.alloc ?_ _ | with_reducible refine Below.setCell ?_ (by first | (simp; done) | (simp; omega)) _ | with_reducible refine G.trans ?_ hb12 | with_reducible refine G.trans ?_ hb11 | with_reducible refine G.trans ?_ hb10 | with_reducible refine G.trans ?_ hb9 | with_reducible refine G.trans ?_ hb8 | with_reducible refine G.trans ?_ hb7 | with_reducible refine G.trans ?_ hb6 | with_reducible refine G.trans ?_ hb5 | with_reducible refine G.trans ?_ hb4 | with_reducible refine G.trans ?_ hb3 | with_reducible refine G.trans ?_ hb2 | with_reducible refine G.trans ?_ hb1 | with_reducible refine G.trans ?_ hb | assumption)
    rcases hcase'.out with rfl | ⟨rfl, rfl, rfl⟩ | ⟨rfl, hm, hk, rfl⟩
    · have hv0 : (v == 0) = false := by simp [hz0]
      go_wp2_with fail
      refine (same_any 0 0 A3 none 0 0 c3 0 [] [] _ (Sl.nil _ _) (Sl.nil _ _) (by simp) (by simp)).mono ?_
      rintro e' w6 ⟨rfl, hb6⟩
      rw [hS.out]
      go_wp2
      go_ret
      exact ⟨rfl, G.trans hbw5 hb6⟩
    · go_wp2_with fail
      refine (same_any 0 0 A3 none 0 0 c3 0 [] [] _ (Sl.nil _ _) (Sl.nil _ _) (by simp) (by simp)).mono ?_
      rintro e' w6 ⟨rfl, hb6⟩
      rw [hS.out]
      go_wp2
      go_ret
      exact ⟨rfl, G.trans hbw5 hb6⟩
    · have hmb : ((m : Int) == 512) = false := by simp; omega
      clear hm
      rcases hk with hk | hk
      · go_wp2_with fail
        refine (same_any 0 0 A3 none 0 0 c3 0 [] [] _ (Sl.nil _ _) (Sl.nil _ _) (by simp) (by simp)).mono ?_
        rintro e' w6 ⟨rfl, hb6⟩
        rw [hS.out]
        go_wp2
        go_ret
        exact ⟨rfl, G.trans hbw5 hb6⟩
      · have hk' : ¬ k < 0 := by omega
        go_wp2_with fail
        refine (same_any 0 0 A3 none 0 0 c3 0 [] [] _ (Sl.nil _ _) (Sl.nil _ _) (by simp) (by simp)).mono ?_
        rintro e' w6 ⟨rfl, hb6⟩
        rw [hS.out]
        go_wp2
        go_ret
        exact ⟨rfl, G.trans hbw5 hb6⟩
end Go.Proofs.YtjldpodehffbnaaDoor
