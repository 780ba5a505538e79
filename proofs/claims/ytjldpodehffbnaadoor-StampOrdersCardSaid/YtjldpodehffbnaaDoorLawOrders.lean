/- The law StampOrders returns true: the walk. -/
import Derived.Test.YtjldpodehffbnaaDoorKnown
namespace Go.Proofs.YtjldpodehffbnaaDoor
set_option linter.unusedVariables false
open Go.RowKit

/-- A stamp that was cut to at most 600 numbers. -/
theorem StIs.cut {w : World} {e : Int} {A : Option Addr} {n c : Nat} {xs : List Int} (h : StIs w e A n c xs) :
    ∃ ys, Sl w A (min n 600) (i64s ys) ∧ min n 600 ≤ maxLen ∧ min n 600 ≤ c ∧ n ≤ c ∧ c ≤ maxLen ∧ min n 600 ≤ 600 := by
  obtain ⟨⟨h1, h2, h3⟩, _⟩ := h
  exact ⟨xs.take (min n 600), by rw [← i64s_take]; exact h3.take (Nat.min_le_left _ _), by unfold maxLen; omega, by omega, h1, h2, by omega⟩

set_option maxRecDepth 20000 in set_option maxHeartbeats 400000 in
theorem stampOrders_any (e1 : Int) (A1 : Option Addr) (n1 c1 : Nat) (x1 : List Int) (e2 : Int) (A2 : Option Addr) (n2 c2 : Nat) (x2 : List Int) (e3 : Int) (A3 : Option Addr) (n3 c3 : Nat) (x3 : List Int) (w : World)
    (hs1 : StIs w e1 A1 n1 c1 x1) (hs2 : StIs w e2 A2 n2 c2 x2) (hs3 : StIs w e3 A3 n3 c3 x3) (ht : Pow10 w) :
    Calls Tryd.prog 6 #[.agg #[.int .i64 e1, .slice A1 n1 c1], .agg #[.int .i64 e2, .slice A2 n2 c2], .agg #[.int .i64 e3, .slice A3 n3 c3]] w fun e' w' => e' = .returned (.bool true) ∧ Below w.heap.size w w' := by
  obtain ⟨ys1, hy1, hm1, hmc1, hnc1, hcm1, _⟩ := hs1.cut
  obtain ⟨ys2, hy2, hm2, hmc2, hnc2, hcm2, _⟩ := hs2.cut
  obtain ⟨ys3, hy3, hm3, hmc3, hnc3, hcm3, _⟩ := hs3.cut
  have htt := Lib.hid ht
  have S1 := Lib.hid (fun w => short_any e1 A1 n1 c1 w hnc1 hcm1)
  have S2 := Lib.hid (fun w => short_any e2 A2 n2 c2 w hnc2 hcm2)
  have S3 := Lib.hid (fun w => short_any e3 A3 n3 c3 w hnc3 hcm3)
  have htri := cmpS_tri e1 e2 e3 ys1 ys2 ys3
  have hX := cmpS_cases e1 e2 ys1 ys2
  have hY := cmpS_cases e2 e3 ys2 ys3
  have C12 := fun w h1 h2 => compare_any e1 e2 A1 A2 (min n1 600) (min n2 600) c1 c2 ys1 ys2 w h1 h2 hm1
  have C23 := fun w h1 h2 => compare_any e2 e3 A2 A3 (min n2 600) (min n3 600) c2 c3 ys2 ys3 w h1 h2 hm2
  have C13 := fun w h1 h2 => compare_any e1 e3 A1 A3 (min n1 600) (min n3 600) c1 c3 ys1 ys3 w h1 h2 hm1
  have C21 := fun w h1 h2 => compare_any e2 e1 A2 A1 (min n2 600) (min n1 600) c2 c1 ys2 ys1 w h1 h2 hm2
  have L12 := fun w h1 h2 => lcompare_any e1 e2 A1 A2 (min n1 600) (min n2 600) c1 c2 ys1 ys2 w h1 h2 hm1 hm2
  have E12 := fun w h1 h2 => equal_any e1 e2 A1 A2 (min n1 600) (min n2 600) c1 c2 ys1 ys2 w h1 h2 hm1
  rw [cmpS_neg e1 e2 ys1 ys2] at C21
  generalize cmpS e1 ys1 e2 ys2 = X at *
  generalize cmpS e2 ys2 e3 ys3 = Y at *
  generalize cmpS e1 ys1 e3 ys3 = Z at *
  have C12' := Lib.hid C12; have C23' := Lib.hid C23; have C13' := Lib.hid C13; have C21' := Lib.hid C21; have L12' := Lib.hid L12; have E12' := Lib.hid E12
  have htri' := Lib.hid htri; have hX' := Lib.hid hX; have hY' := Lib.hid hY
  clear ht hs1 hs2 hs3 C12 C23 C13 C21 L12 E12 htri hX hY
  generalize min n1 600 = m1 at *
  generalize min n2 600 = m2 at *
  generalize min n3 600 = m3 at *
  go_enter Tryd.func6, Tryd.ntmps6
  go_wp2_with fail
  (refine wp_region_grow_tail 6 (by kernel_rfl) (by kernel_rfl) ?_)
  simp only [List.take_succ_cons, List.take_zero, List.drop_succ_cons, List.drop_zero]
  (repeat ((with_reducible refine wpQuiet_step ?_); intro K hK; first | ((with_reducible refine q_skip ?_ ?_); (focus (go_simp; done)); go_simp; (with_reducible refine hK _ ?_); clear hK K) | ((with_reducible refine q_any ?_ ?_); (focus (go_simp; done)); apply Exists.intro; refine And.intro ?_ ?_; (focus (intro wq hq; obtain ⟨hcq, hfq⟩ := G.old hq; go_simp; (first | done | (go_at_call 14; first | ((with_reducible refine (S1.out _).mono ?_); exact fun e w' h => ⟨h.1, Grew.trans hq h.2⟩) | ((with_reducible refine (S2.out _).mono ?_); exact fun e w' h => ⟨h.1, Grew.trans hq h.2⟩) | ((with_reducible refine (S3.out _).mono ?_); exact fun e w' h => ⟨h.1, Grew.trans hq h.2⟩)) | exact rfl); done)); go_simp; (with_reducible refine hK _ ?_); clear hK K) | fail))
  ((with_reducible refine wpQuiet_nil ?_); intro w1 hb1)
  have hb1 := hb1.b
  have k0 := G.cell (a := ⟨w.heap.size, 0, none⟩) (v := .int .i64 e1) (by go_simp) hb1
  have k1 := G.cell (a := ⟨w.heap.size, 1, none⟩) (v := .slice A1 n1 c1) (by go_simp) hb1
  have k2 := G.cell (a := ⟨w.heap.size + 1, 0, none⟩) (v := .int .i64 e2) (by go_simp) hb1
  have k3 := G.cell (a := ⟨w.heap.size + 1, 1, none⟩) (v := .slice A2 n2 c2) (by go_simp) hb1
  have k4 := G.cell (a := ⟨w.heap.size + 1 + 1, 0, none⟩) (v := .int .i64 e3) (by go_simp) hb1
  have k5 := G.cell (a := ⟨w.heap.size + 1 + 1, 1, none⟩) (v := .slice A3 n3 c3) (by go_simp) hb1
  obtain ⟨hc, hf⟩ := G.old hb1
  have hbw1 : Below w.heap.size w w1 := by repeat (first | with_reducible assumption | with_reducible exact G.refl _ | with_reducible refine G.drew ?_ | with_reducible refine G.drewN ?_ _ | with_reducible refine G.alloc ?_ _ | with_reducible refine Below.setCell ?_ (by first | (simp; done) | (simp; omega)) _ | with_reducible refine G.trans ?_ hb7 | with_reducible refine G.trans ?_ hb6 | with_reducible refine G.trans ?_ hb5 | with_reducible refine G.trans ?_ hb4 | with_reducible refine G.trans ?_ hb3 | with_reducible refine G.trans ?_ hb2 | with_reducible refine G.trans ?_ hb1 | with_reducible refine G.trans ?_ hb | assumption)
  go_wp2_with fail
  obtain ⟨w2, hw2⟩ : ∃ w2, (((((w1.setCell ⟨w.heap.size, 0, none⟩ (Value.int .i64 e1)).setCell ⟨w.heap.size, 1, none⟩ (Value.slice A1 m1 c1)).setCell ⟨w.heap.size + 1, 0, none⟩ (Value.int .i64 e2)).setCell ⟨w.heap.size + 1, 1, none⟩ (Value.slice A2 m2 c2)).setCell ⟨w.heap.size + 1 + 1, 0, none⟩ (Value.int .i64 e3)).setCell ⟨w.heap.size + 1 + 1, 1, none⟩ (Value.slice A3 m3 c3) = w2 := ⟨_, rfl⟩
  have hb2 : Below w.heap.size w w2 := by subst hw2; repeat (first | with_reducible assumption | with_reducible exact G.refl _ | with_reducible refine G.drew ?_ | with_reducible refine G.drewN ?_ _ | with_reducible refine G.alloc ?_ _ | with_reducible refine Below.setCell ?_ (by first | (simp; done) | (simp; omega)) _ | with_reducible refine G.trans ?_ hb7 | with_reducible refine G.trans ?_ hb6 | with_reducible refine G.trans ?_ hb5 | with_reducible refine G.trans ?_ hb4 | with_reducible refine G.trans ?_ hb3 | with_reducible refine G.trans ?_ hb2 | with_reducible refine G.trans ?_ hb1 | with_reducible refine G.trans ?_ hb | assumption)
  have j0 : w2.cell? ⟨w.heap.size, 0, none⟩ = some (.int .i64 e1) := by subst hw2; go_simp
  have j1 : w2.cell? ⟨w.heap.size, 1, none⟩ = some (.slice A1 m1 c1) := by subst hw2; go_simp
  have j2 : w2.cell? ⟨w.heap.size + 1, 0, none⟩ = some (.int .i64 e2) := by subst hw2; go_simp
  have j3 : w2.cell? ⟨w.heap.size + 1, 1, none⟩ = some (.slice A2 m2 c2) := by subst hw2; go_simp
  have j4 : w2.cell? ⟨w.heap.size + 1 + 1, 0, none⟩ = some (.int .i64 e3) := by subst hw2; go_simp
  have j5 : w2.cell? ⟨w.heap.size + 1 + 1, 1, none⟩ = some (.slice A3 m3 c3) := by subst hw2; go_simp
  have lt0 : w.heap.size < w2.heap.size := cell_lt j0
  have lt1 : w.heap.size + 1 < w2.heap.size := cell_lt j2
  have lt2 : w.heap.size + 1 + 1 < w2.heap.size := cell_lt j4
  rw [hw2]
  clear hw2 hc hf k0 k1 k2 k3 k4 k5 hb1 hbw1
  have hz1 := hy1.grow hb2
  have hz2 := hy2.grow hb2
  have hz3 := hy3.grow hb2
  have ht2 := Lib.hid (htt.out.grow hb2)
  clear hy1 hy2 hy3
  (refine wp_region_grow (by kernel_rfl) (by kernel_rfl) ?_)
  (repeat ((with_reducible refine wpQuiet_step ?_); intro K hK; first | ((with_reducible refine q_skip ?_ ?_); (focus (go_simp; done)); go_simp; (with_reducible refine hK _ ?_); clear hK K) | ((with_reducible refine q_any ?_ ?_); (focus (go_simp; done)); apply Exists.intro; refine And.intro ?_ ?_; (focus (intro wq hq; obtain ⟨hcq, hfq⟩ := G.old hq; go_simp; (first | done | (go_at_call 24; first | ((with_reducible refine (C12'.out _ ?_ ?_).mono ?_); exact hz1.grow hq.b; exact hz2.grow hq.b; exact fun e w' h => ⟨h.1, Grew.trans hq h.2⟩) | ((with_reducible refine (C23'.out _ ?_ ?_).mono ?_); exact hz2.grow hq.b; exact hz3.grow hq.b; exact fun e w' h => ⟨h.1, Grew.trans hq h.2⟩) | ((with_reducible refine (C13'.out _ ?_ ?_).mono ?_); exact hz1.grow hq.b; exact hz3.grow hq.b; exact fun e w' h => ⟨h.1, Grew.trans hq h.2⟩)) | exact rfl); done)); go_simp; (with_reducible refine hK _ ?_); clear hK K) | fail))
  ((with_reducible refine wpQuiet_nil ?_); intro w3 hb3)
  have hb3 := hb3.b
  have i0 := G.cell j0 hb3
  have i1 := G.cell j1 hb3
  have i2 := G.cell j2 hb3
  have i3 := G.cell j3 hb3
  go_wp2_with fail
  refine (known_any _ (ht2.out.grow (by repeat (first | with_reducible assumption | with_reducible exact G.refl _ | with_reducible refine G.drew ?_ | with_reducible refine G.drewN ?_ _ | with_reducible refine G.alloc ?_ _ | with_reducible refine Below.setCell ?_ (by first | (simp; done) | (simp; omega)) _ | with_reducible refine G.trans ?_ hb7 | with_reducible refine G.trans ?_ hb6 | with_reducible refine G.trans ?_ hb5 | with_reducible refine G.trans ?_ hb4 | with_reducible refine G.trans ?_ hb3 | with_reducible refine G.trans ?_ hb2 | with_reducible refine G.trans ?_ hb1 | with_reducible refine G.trans ?_ hb | assumption)))).mono ?_
  rintro e' w4 ⟨rfl, hb4⟩
  have f0 := G.cell i0 hb4
  have f1 := G.cell i1 hb4
  have f2 := G.cell i2 hb4
  have f3 := G.cell i3 hb4
  have hy1 : Sl w4 A1 m1 (i64s ys1) := by repeat (first | with_reducible assumption | with_reducible exact Sl.new' (by simp; done) (by simp; done) (by simp; done) | with_reducible refine Sl.drew ?_ | with_reducible refine Sl.drewN ?_ _ | with_reducible refine Sl.alloc ?_ _ | with_reducible refine Sl.grow ?_ hb7 | with_reducible refine Sl.grow ?_ hb6 | with_reducible refine Sl.grow ?_ hb5 | with_reducible refine Sl.grow ?_ hb4 | with_reducible refine Sl.grow ?_ hb3 | with_reducible refine Sl.grow ?_ hb2 | with_reducible refine Sl.grow ?_ hb1 | with_reducible refine Sl.grow ?_ hb | assumption)
  have hy2 : Sl w4 A2 m2 (i64s ys2) := by repeat (first | with_reducible assumption | with_reducible exact Sl.new' (by simp; done) (by simp; done) (by simp; done) | with_reducible refine Sl.drew ?_ | with_reducible refine Sl.drewN ?_ _ | with_reducible refine Sl.alloc ?_ _ | with_reducible refine Sl.grow ?_ hb7 | with_reducible refine Sl.grow ?_ hb6 | with_reducible refine Sl.grow ?_ hb5 | with_reducible refine Sl.grow ?_ hb4 | with_reducible refine Sl.grow ?_ hb3 | with_reducible refine Sl.grow ?_ hb2 | with_reducible refine Sl.grow ?_ hb1 | with_reducible refine Sl.grow ?_ hb | assumption)
  have hbw4 : Below w.heap.size w w4 := by repeat (first | with_reducible assumption | with_reducible exact G.refl _ | with_reducible refine G.drew ?_ | with_reducible refine G.drewN ?_ _ | with_reducible refine G.alloc ?_ _ | with_reducible refine Below.setCell ?_ (by first | (simp; done) | (simp; omega)) _ | with_reducible refine G.trans ?_ hb7 | with_reducible refine G.trans ?_ hb6 | with_reducible refine G.trans ?_ hb5 | with_reducible refine G.trans ?_ hb4 | with_reducible refine G.trans ?_ hb3 | with_reducible refine G.trans ?_ hb2 | with_reducible refine G.trans ?_ hb1 | with_reducible refine G.trans ?_ hb | assumption)
  have hne := fun (x : Int) => (show (x != x) = false by simp)
  go_wp2_with fail
  refine (L12'.out _ hy1 hy2).mono ?_
  rintro e' w5 ⟨rfl, hb5⟩
  have g0 := G.cell f0 hb5
  have g1 := G.cell f1 hb5
  have g2 := G.cell f2 hb5
  have g3 := G.cell f3 hb5
  have hXX : (X != X) = false := by simp
  go_wp2_with fail
  refine (C21'.out _ (hy2.grow hb5) (hy1.grow hb5)).mono ?_
  rintro e' w6 ⟨rfl, hb6⟩
  have d0 := G.cell g0 hb6
  have d1 := G.cell g1 hb6
  have d2 := G.cell g2 hb6
  have d3 := G.cell g3 hb6
  have hbw6 : Below w.heap.size w w6 := by repeat (first | with_reducible assumption | with_reducible exact G.refl _ | with_reducible refine G.drew ?_ | with_reducible refine G.drewN ?_ _ | with_reducible refine G.alloc ?_ _ | with_reducible refine Below.setCell ?_ (by first | (simp; done) | (simp; omega)) _ | with_reducible refine G.trans ?_ hb7 | with_reducible refine G.trans ?_ hb6 | with_reducible refine G.trans ?_ hb5 | with_reducible refine G.trans ?_ hb4 | with_reducible refine G.trans ?_ hb3 | with_reducible refine G.trans ?_ hb2 | with_reducible refine G.trans ?_ hb1 | with_reducible refine G.trans ?_ hb | assumption)
  have hE1 := hy1.grow hb5 |>.grow hb6
  have hE2 := hy2.grow hb5 |>.grow hb6
  clear hz1 hz2 hz3 hy1 hy2 C12' C23' C13' C21' L12' S1 S2 S3 j0 j1 j2 j3 j4 j5 i0 i1 i2 i3 f0 f1 f2 f3 g0 g1 g2 g3 hb2 hb3 hb4 hb5 hb6 hbw4 ht2 htt hne hXX
  rcases hX'.out with rfl | rfl | rfl <;> rcases hY'.out with rfl | rfl | rfl
  all_goals
    have hZ := htri'.out
    simp [Tri] at hZ
    try subst hZ
    go_wp2_with fail
    refine (E12'.out _ hE1 hE2).mono ?_
    rintro e' w7 ⟨rfl, hb7⟩
    go_wp2
    go_ret
    exact ⟨rfl, G.trans hbw6 hb7⟩
end Go.Proofs.YtjldpodehffbnaaDoor
