/- The law StampDescends returns true: the walk. -/
import Derived.Test.YtjldpodehffbnaaDoorKnown
import Derived.Test.YtjldpodehffbnaaDoorOrd
namespace Go.Proofs.YtjldpodehffbnaaDoor
set_option linter.unusedVariables false
set_option linter.unnecessarySimpa false
set_option linter.unusedSimpArgs false
open Go.RowKit

/-- A stamp that was cut to at most 600 numbers. -/
theorem StIs.cut' {w : World} {e : Int} {A : Option Addr} {n c : Nat} {xs : List Int} (h : StIs w e A n c xs) :
    ∃ ys, Sl w A (min n 600) (i64s ys) ∧ min n 600 ≤ maxLen ∧ min n 600 ≤ c ∧ n ≤ c ∧ c ≤ maxLen ∧ min n 600 ≤ 600 := by
  obtain ⟨⟨h1, h2, h3⟩, _⟩ := h
  exact ⟨xs.take (min n 600), by rw [← i64s_take]; exact h3.take (Nat.min_le_left _ _), by unfold maxLen; omega, by omega, h1, h2, by omega⟩
theorem SlIs.cut {w : World} {A : Option Addr} {n c : Nat} {xs : List Int} (k : Nat) (h : SlIs w A n c xs) :
    ∃ ys, Sl w A (min n k) (i64s ys) ∧ min n k ≤ maxLen ∧ min n k ≤ c ∧ n ≤ c ∧ c ≤ maxLen := by
  obtain ⟨h1, h2, h3⟩ := h
  exact ⟨xs.take (min n k), by rw [← i64s_take]; exact h3.take (Nat.min_le_left _ _), by unfold maxLen at *; omega, by omega, h1, h2⟩
theorem descS_joined (e : Int) (xs ts : List Int) : descS e (xs ++ ts) e xs = decide (0 < ts.length) := by
  unfold descS
  simp
theorem descS_back (e : Int) (xs ts : List Int) : descS e xs e (xs ++ ts) = false := by
  unfold descS
  simp only [List.length_append, true_and, decide_eq_false_iff_not, not_and]
  intro h
  omega
/-- What joined gives, its length named. -/
theorem joined_len (e : Int) (A B : Option Addr) (n c m d : Nat) (xs ts : List Int) (w : World) (hx : Sl w A n (i64s xs)) (ht : Sl w B m (i64s ts)) (hn : n ≤ 600) (hm : m ≤ 20) :
    Calls Tryd.prog 20 #[.agg #[.int .i64 e, .slice A n c], .slice B m d] w fun e' w' => ∃ A' c', e' = .returned (.agg #[.int .i64 e, .slice A' (n + m) c']) ∧ Sl w' A' (n + m) (i64s (xs ++ ts)) ∧ n + m ≤ c' ∧ c' ≤ maxLen ∧ Below w.heap.size w w' := by
  refine (joined_any e A B n c m d xs ts w hx ht hn hm).mono ?_
  rintro e' w' ⟨A', c', rfl, h1, h2, h3, _, h4⟩
  have hl : (xs ++ ts).length = n + m := by rw [List.length_append, hx.len, ht.len]
  rw [hl] at h1 h2 ⊢
  exact ⟨A', c', rfl, h1, h2, h3, h4⟩

set_option maxRecDepth 20000 in set_option maxHeartbeats 400000 in
theorem stampDescends_any (e1 : Int) (A1 : Option Addr) (n1 c1 : Nat) (x1 : List Int) (e2 : Int) (A2 : Option Addr) (n2 c2 : Nat) (x2 : List Int) (B : Option Addr) (m d : Nat) (ts : List Int) (w : World)
    (hs1 : StIs w e1 A1 n1 c1 x1) (hs2 : StIs w e2 A2 n2 c2 x2) (hs3 : SlIs w B m d ts) (ht : Pow10 w) :
    Calls Tryd.prog 4 #[.agg #[.int .i64 e1, .slice A1 n1 c1], .agg #[.int .i64 e2, .slice A2 n2 c2], .slice B m d] w fun e' w' => e' = .returned (.bool true) ∧ Below w.heap.size w w' := by
  obtain ⟨ys1, hy1, hm1, hmc1, hnc1, hcm1, h61⟩ := hs1.cut'
  obtain ⟨ys2, hy2, hm2, hmc2, hnc2, hcm2, h62⟩ := hs2.cut'
  obtain ⟨us, hu, hmu, hud, hmd, hdm⟩ := hs3.cut 20
  have htt := Lib.hid ht
  have S1 := Lib.hid (fun w => short_any e1 A1 n1 c1 w hnc1 hcm1)
  have S2 := Lib.hid (fun w => short_any e2 A2 n2 c2 w hnc2 hcm2)
  have hmu20 : min m 20 ≤ 20 := by omega
  generalize hM : min m 20 = M at *
  generalize min n1 600 = m1 at *
  generalize min n2 600 = m2 at *
  have D1 := fun w h1 h2 => descends_any e1 e2 A1 A2 m1 m2 c1 c2 ys1 ys2 w h1 h2 hm2 hmc1
  have L1 := fun w h1 h2 => ldescends_any e1 e2 A1 A2 m1 m2 c1 c2 ys1 ys2 w h1 h2 hm1 hm2
  have J := Lib.hid (fun w h1 h2 => joined_len e2 A2 B m2 c2 M d ys2 us w h1 h2 h62 hmu20)
  have D2 := fun w A' c' hc' h1 h2 => descends_any e2 e2 A' A2 (m2 + M) m2 c' c2 (ys2 ++ us) ys2 w h1 h2 hm2 hc'
  have D3 := fun w A' c' h1 h2 => descends_any e2 e2 A2 A' m2 (m2 + M) c2 c' ys2 (ys2 ++ us) w h1 h2 (by unfold maxLen; omega) hmc2
  rw [descS_joined, hu.len] at D2
  rw [descS_back] at D3
  generalize descS e1 ys1 e2 ys2 = b at *
  have hdec : Hid (decide (0 < M) = decide ((0 : Int) < (M : Int))) := by unfold Hid; simp
  rw [hdec.out] at D2
  have D1' := Lib.hid D1; have L1' := Lib.hid L1; have D2' := Lib.hid D2; have D3' := Lib.hid D3
  have hbb : (b == b) = true := by simp
  have hMi : (0 : Int) ≤ (M : Int) := by omega
  have hMd : (M : Int) ≤ (d : Int) := by omega
  have hz1 : m2 + M ≤ maxLen := by unfold maxLen; omega
  have hmin : min (m : Int) 20 = (M : Int) := by omega
  clear ht hs1 hs2 hs3 D1 L1 D2 D3 hdec hM
  go_enter Tryd.func4, Tryd.ntmps4
  go_wp2_with fail
  refine wp_region_ord [(0, 1), (2, 1), (4, 0), (5, 0), (6, 0), (7, 0), (8, 0), (1, 2), (3, 2), (9, 3), (10, 3), (11, 0)] [9, 10] 5 (by kernel_rfl) (by decide +kernel) ?_
  simp only [pickO, List.getElem?_cons_succ, List.getElem?_cons_zero]
  intro w0 hG
  (repeat ((first | (with_reducible refine ord_q1 ?_) | (with_reducible refine ord_q0 ?_)); intro K hK; first | (refine Or.inr ⟨?_, ?_⟩; (focus (go_simp; done)); go_simp; (with_reducible refine hK _ ?_); clear hK K) | (refine Or.inl ⟨?_, ?_⟩; (focus (go_simp; done)); apply Exists.intro; refine And.intro ?_ ?_; (focus (first | (intro wq hq; obtain ⟨hcq, hfq⟩ := G.old hq; go_simp; (first | done | exact rfl); done) | (intro wq; go_simp; (first | done | exact rfl); done))); go_simp; (with_reducible refine hK _ ?_); clear hK K) | fail))
  (with_reducible refine ord_run ?_ hG)
  intro K hK
  go_simp
  go_at_call 14; (with_reducible refine (S1.out _).mono ?_); rintro e' w1 ⟨rfl, hb1⟩
  replace hG := Grew.trans hG hb1
  (try dsimp only)
  (with_reducible refine hK _ _ hG ?_)
  clear hK K
  (repeat ((first | (with_reducible refine ord_q1 ?_) | (with_reducible refine ord_q0 ?_)); intro K hK; first | (refine Or.inr ⟨?_, ?_⟩; (focus (go_simp; done)); go_simp; (with_reducible refine hK _ ?_); clear hK K) | (refine Or.inl ⟨?_, ?_⟩; (focus (go_simp; done)); apply Exists.intro; refine And.intro ?_ ?_; (focus (first | (intro wq hq; obtain ⟨hcq, hfq⟩ := G.old hq; go_simp; (first | done | exact rfl); done) | (intro wq; go_simp; (first | done | exact rfl); done))); go_simp; (with_reducible refine hK _ ?_); clear hK K) | fail))
  (with_reducible refine ord_run ?_ hG)
  intro K hK
  go_simp
  go_at_call 14; (with_reducible refine (S2.out _).mono ?_); rintro e' w2 ⟨rfl, hb2⟩
  replace hG := Grew.trans hG hb2
  (try dsimp only)
  (with_reducible refine hK _ _ hG ?_)
  clear hK K
  (repeat ((first | (with_reducible refine ord_q1 ?_) | (with_reducible refine ord_q0 ?_)); intro K hK; first | (refine Or.inr ⟨?_, ?_⟩; (focus (go_simp; done)); go_simp; (with_reducible refine hK _ ?_); clear hK K) | (refine Or.inl ⟨?_, ?_⟩; (focus (go_simp; done)); apply Exists.intro; refine And.intro ?_ ?_; (focus (first | (intro wq hq; obtain ⟨hcq, hfq⟩ := G.old hq; go_simp; (first | done | exact rfl); done) | (intro wq; go_simp; (first | done | exact rfl); done))); go_simp; (with_reducible refine hK _ ?_); clear hK K) | fail))
  obtain ⟨hcG, hfG⟩ := G.old hG.b
  
  replace k0 := G.cell (a := ⟨w.heap.size, 0, none⟩) (v := .int .i64 e1) (by go_simp) hG.b
  replace k1 := G.cell (a := ⟨w.heap.size, 1, none⟩) (v := .slice A1 n1 c1) (by go_simp) hG.b
  replace k2 := G.cell (a := ⟨w.heap.size + 1, 0, none⟩) (v := .int .i64 e2) (by go_simp) hG.b
  replace k3 := G.cell (a := ⟨w.heap.size + 1, 1, none⟩) (v := .slice A2 n2 c2) (by go_simp) hG.b
  replace lt0 := cell_lt k0
  replace lt1 := cell_lt k1
  replace lt2 := cell_lt k2
  replace lt3 := cell_lt k3
  have hbw2 : Below w.heap.size w w2 := G.trans (by repeat (first | with_reducible assumption | with_reducible exact G.refl _ | with_reducible refine G.drew ?_ | with_reducible refine G.drewN ?_ _ | with_reducible refine G.alloc ?_ _ | with_reducible refine Below.setCell ?_ (by first | (simp; done) | (simp; omega)) _ | with_reducible refine G.trans ?_ hb12 | with_reducible refine G.trans ?_ hb11 | with_reducible refine G.trans ?_ hb10 | with_reducible refine G.trans ?_ hb9 | with_reducible refine G.trans ?_ hb8 | with_reducible refine G.trans ?_ hb7 | with_reducible refine G.trans ?_ hb6 | with_reducible refine G.trans ?_ hb5 | with_reducible refine G.trans ?_ hb4 | with_reducible refine G.trans ?_ hb3 | with_reducible refine G.trans ?_ hb2 | with_reducible refine G.trans ?_ hb1 | with_reducible refine G.trans ?_ hb | assumption)) hG.b
  ((with_reducible refine ord_tail ?_); intro K hK; go_simp; (with_reducible refine hK _ _ ?_); clear hK K)
  ((with_reducible refine ord_tail ?_); intro K hK; go_simp; (with_reducible refine hK _ _ ?_); clear hK K)
  (repeat ((first | (with_reducible refine ord_q1 ?_) | (with_reducible refine ord_q0 ?_)); intro K hK; first | (refine Or.inr ⟨?_, ?_⟩; (focus (go_simp; done)); go_simp; (with_reducible refine hK _ ?_); clear hK K) | (refine Or.inl ⟨?_, ?_⟩; (focus (go_simp; done)); apply Exists.intro; refine And.intro ?_ ?_; (focus (first | (intro wq hq; obtain ⟨hcq, hfq⟩ := G.old hq; go_simp; (first | done | exact rfl); done) | (intro wq; go_simp; (first | done | exact rfl); done))); go_simp; (with_reducible refine hK _ ?_); clear hK K) | fail))
  (with_reducible refine ord_nil ?_)
  go_wp2_with fail
  refine wp_name (fun w3 => Below w.heap.size w w3 ∧ w3.cell? ⟨w.heap.size, 0, none⟩ = some (.int .i64 e1) ∧ w3.cell? ⟨w.heap.size, 1, none⟩ = some (.slice A1 m1 c1) ∧ w3.cell? ⟨w.heap.size + 1, 0, none⟩ = some (.int .i64 e2) ∧ w3.cell? ⟨w.heap.size + 1, 1, none⟩ = some (.slice A2 m2 c2)) ⟨by repeat (first | with_reducible assumption | with_reducible exact G.refl _ | with_reducible refine G.drew ?_ | with_reducible refine G.drewN ?_ _ | with_reducible refine G.alloc ?_ _ | with_reducible refine Below.setCell ?_ (by first | (simp; done) | (simp; omega)) _ | with_reducible refine G.trans ?_ hb12 | with_reducible refine G.trans ?_ hb11 | with_reducible refine G.trans ?_ hb10 | with_reducible refine G.trans ?_ hb9 | with_reducible refine G.trans ?_ hb8 | with_reducible refine G.trans ?_ hb7 | with_reducible refine G.trans ?_ hb6 | with_reducible refine G.trans ?_ hb5 | with_reducible refine G.trans ?_ hb4 | with_reducible refine G.trans ?_ hb3 | with_reducible refine G.trans ?_ hb2 | with_reducible refine G.trans ?_ hb1 | with_reducible refine G.trans ?_ hb | assumption), by go_simp, by go_simp, by go_simp, by go_simp⟩ ?_
  clear k0 k1 k2 k3 lt0 lt1 lt2 lt3 hcG hfG hbw2 hG hb1 hb2 w2 w1 w0
  rintro w1 ⟨hb, j0, j1, j2, j3⟩
  have hx1 := hy1.grow hb
  have hx2 := hy2.grow hb
  have hxu := hu.grow hb
  have ht1 := Lib.hid (htt.out.grow hb)
  have lt0 := cell_lt j0
  have lt1 := cell_lt j2
  clear hy1 hy2 hu htt
  refine wp_region_ord [(0, 2), (1, 1), (2, 1), (3, 1), (5, 1), (6, 1), (4, 2), (7, 2), (8, 1), (9, 1), (10, 1), (11, 1), (12, 1), (14, 1), (16, 1), (17, 1), (18, 1), (13, 2), (15, 2), (19, 1), (20, 1), (21, 1), (22, 1), (23, 1), (24, 1), (25, 2), (26, 2), (27, 1), (28, 1), (29, 1)] [] 5 (by kernel_rfl) (by decide +kernel) ?_
  simp only [pickO, List.getElem?_cons_succ, List.getElem?_cons_zero]
  intro w0 hG
  (repeat ((first | (with_reducible refine ord_q1 ?_) | (with_reducible refine ord_q0 ?_)); intro K hK; first | (refine Or.inr ⟨?_, ?_⟩; (focus (go_simp; done)); go_simp; (with_reducible refine hK _ ?_); clear hK K) | (refine Or.inl ⟨?_, ?_⟩; (focus (go_simp; done)); apply Exists.intro; refine And.intro ?_ ?_; (focus (first | (intro wq hq; obtain ⟨hcq, hfq⟩ := G.old hq; go_simp; (first | done | exact rfl); done) | (intro wq; go_simp; (first | done | exact rfl); done))); go_simp; (with_reducible refine hK _ ?_); clear hK K) | fail))
  (with_reducible refine ord_run ?_ hG)
  intro K hK
  go_simp
  go_at_call 15; (with_reducible refine (known_any _ (ht1.out.grow hG.b)).mono ?_); rintro e' wa ⟨rfl, hb1⟩
  replace hG := Grew.trans hG hb1
  (try dsimp only)
  (with_reducible refine hK _ _ hG ?_)
  clear hK K
  (repeat ((first | (with_reducible refine ord_q1 ?_) | (with_reducible refine ord_q0 ?_)); intro K hK; first | (refine Or.inr ⟨?_, ?_⟩; (focus (go_simp; done)); go_simp; (with_reducible refine hK _ ?_); clear hK K) | (refine Or.inl ⟨?_, ?_⟩; (focus (go_simp; done)); apply Exists.intro; refine And.intro ?_ ?_; (focus (first | (intro wq hq; obtain ⟨hcq, hfq⟩ := G.old hq; go_simp; (first | done | exact rfl); done) | (intro wq; go_simp; (first | done | exact rfl); done))); go_simp; (with_reducible refine hK _ ?_); clear hK K) | fail))
  (with_reducible refine ord_run ?_ hG)
  intro K hK
  go_simp
  go_at_call 18; (with_reducible refine (D1'.out _ (hx1.grow hG.b) (hx2.grow hG.b)).mono ?_); rintro e' wb ⟨rfl, hb2⟩
  replace hG := Grew.trans hG hb2
  (try dsimp only)
  (with_reducible refine hK _ _ hG ?_)
  clear hK K
  (repeat ((first | (with_reducible refine ord_q1 ?_) | (with_reducible refine ord_q0 ?_)); intro K hK; first | (refine Or.inr ⟨?_, ?_⟩; (focus (go_simp; done)); go_simp; (with_reducible refine hK _ ?_); clear hK K) | (refine Or.inl ⟨?_, ?_⟩; (focus (go_simp; done)); apply Exists.intro; refine And.intro ?_ ?_; (focus (first | (intro wq hq; obtain ⟨hcq, hfq⟩ := G.old hq; go_simp; (first | done | exact rfl); done) | (intro wq; go_simp; (first | done | exact rfl); done))); go_simp; (with_reducible refine hK _ ?_); clear hK K) | fail))
  (with_reducible refine ord_run ?_ hG)
  intro K hK
  go_simp
  go_at_call 19; (with_reducible refine (L1'.out _ (hx1.grow hG.b) (hx2.grow hG.b)).mono ?_); rintro e' wc ⟨rfl, hb3⟩
  replace hG := Grew.trans hG hb3
  (try dsimp only)
  (with_reducible refine hK _ _ hG ?_)
  clear hK K
  (repeat ((first | (with_reducible refine ord_q1 ?_) | (with_reducible refine ord_q0 ?_)); intro K hK; first | (refine Or.inr ⟨?_, ?_⟩; (focus (go_simp; done)); go_simp; (with_reducible refine hK _ ?_); clear hK K) | (refine Or.inl ⟨?_, ?_⟩; (focus (go_simp; done)); apply Exists.intro; refine And.intro ?_ ?_; (focus (first | (intro wq hq; obtain ⟨hcq, hfq⟩ := G.old hq; go_simp; (first | done | exact rfl); done) | (intro wq; go_simp; (first | done | exact rfl); done))); go_simp; (with_reducible refine hK _ ?_); clear hK K) | fail))
  (with_reducible refine ord_run ?_ hG)
  intro K hK
  go_simp
  go_at_call 20; (with_reducible refine (J.out _ (hx2.grow hG.b) (hxu.grow hG.b)).mono ?_); rintro e' wd ⟨A4, c4, rfl, hs4, hl4, hm4, hb4⟩
  replace hG := Grew.trans hG hb4
  (try dsimp only)
  (with_reducible refine hK _ _ hG ?_)
  clear hK K
  (repeat ((first | (with_reducible refine ord_q1 ?_) | (with_reducible refine ord_q0 ?_)); intro K hK; first | (refine Or.inr ⟨?_, ?_⟩; (focus (go_simp; done)); go_simp; (with_reducible refine hK _ ?_); clear hK K) | (refine Or.inl ⟨?_, ?_⟩; (focus (go_simp; done)); apply Exists.intro; refine And.intro ?_ ?_; (focus (first | (intro wq hq; obtain ⟨hcq, hfq⟩ := G.old hq; go_simp; (first | done | exact rfl); done) | (intro wq; go_simp; (first | done | exact rfl); done))); go_simp; (with_reducible refine hK _ ?_); clear hK K) | fail))
  (with_reducible refine ord_run ?_ hG)
  intro K hK
  go_simp
  go_at_call 18; (with_reducible refine (D2'.out _ A4 c4 hl4 hs4 (hx2.grow hG.b)).mono ?_); rintro e' we ⟨rfl, hb5⟩
  replace hG := Grew.trans hG hb5
  (try dsimp only)
  (with_reducible refine hK _ _ hG ?_)
  clear hK K
  (repeat ((first | (with_reducible refine ord_q1 ?_) | (with_reducible refine ord_q0 ?_)); intro K hK; first | (refine Or.inr ⟨?_, ?_⟩; (focus (go_simp; done)); go_simp; (with_reducible refine hK _ ?_); clear hK K) | (refine Or.inl ⟨?_, ?_⟩; (focus (go_simp; done)); apply Exists.intro; refine And.intro ?_ ?_; (focus (first | (intro wq hq; obtain ⟨hcq, hfq⟩ := G.old hq; go_simp; (first | done | exact rfl); done) | (intro wq; go_simp; (first | done | exact rfl); done))); go_simp; (with_reducible refine hK _ ?_); clear hK K) | fail))
  (with_reducible refine ord_run ?_ hG)
  intro K hK
  go_simp
  go_at_call 20; (with_reducible refine (J.out _ (hx2.grow hG.b) (hxu.grow hG.b)).mono ?_); rintro e' wf ⟨A6, c6, rfl, hs6, hl6, hm6, hb6⟩
  replace hG := Grew.trans hG hb6
  (try dsimp only)
  (with_reducible refine hK _ _ hG ?_)
  clear hK K
  (repeat ((first | (with_reducible refine ord_q1 ?_) | (with_reducible refine ord_q0 ?_)); intro K hK; first | (refine Or.inr ⟨?_, ?_⟩; (focus (go_simp; done)); go_simp; (with_reducible refine hK _ ?_); clear hK K) | (refine Or.inl ⟨?_, ?_⟩; (focus (go_simp; done)); apply Exists.intro; refine And.intro ?_ ?_; (focus (first | (intro wq hq; obtain ⟨hcq, hfq⟩ := G.old hq; go_simp; (first | done | exact rfl); done) | (intro wq; go_simp; (first | done | exact rfl); done))); go_simp; (with_reducible refine hK _ ?_); clear hK K) | fail))
  (with_reducible refine ord_run ?_ hG)
  intro K hK
  go_simp
  go_at_call 18; (with_reducible refine (D3'.out _ A6 c6 (hx2.grow hG.b) hs6).mono ?_); rintro e' wg ⟨rfl, hb7⟩
  replace hG := Grew.trans hG hb7
  (try dsimp only)
  (with_reducible refine hK _ _ hG ?_)
  clear hK K
  (repeat ((first | (with_reducible refine ord_q1 ?_) | (with_reducible refine ord_q0 ?_)); intro K hK; first | (refine Or.inr ⟨?_, ?_⟩; (focus (go_simp; done)); go_simp; (with_reducible refine hK _ ?_); clear hK K) | (refine Or.inl ⟨?_, ?_⟩; (focus (go_simp; done)); apply Exists.intro; refine And.intro ?_ ?_; (focus (first | (intro wq hq; obtain ⟨hcq, hfq⟩ := G.old hq; go_simp; (first | done | exact rfl); done) | (intro wq; go_simp; (first | done | exact rfl); done))); go_simp; (with_reducible refine hK _ ?_); clear hK K) | fail))
  (with_reducible refine ord_nil ?_)
  go_wp2
  go_ret
  exact ⟨rfl, G.trans hb hG.b⟩
end Go.Proofs.YtjldpodehffbnaaDoor
