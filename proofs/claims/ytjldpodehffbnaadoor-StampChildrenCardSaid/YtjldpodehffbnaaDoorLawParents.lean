/- The law StampParents returns true: the walk. -/
import Derived.Test.YtjldpodehffbnaaDoorKnown
namespace Go.Proofs.YtjldpodehffbnaaDoor
set_option linter.unusedVariables false
set_option linter.unnecessarySimpa false
set_option linter.unusedSimpArgs false
open Go.RowKit

theorem checkS_first {e : Int} {xs : List Int} (h : checkS e xs = 0) : 0 ≤ xs.getD 0 0 ∧ xs.getD 0 0 ≤ 1 := by
  obtain ⟨h1, h2, hl, hl5, hb⟩ := checkS_ok h
  have hne : xs.getD 0 0 ∈ xs := by
    cases xs with
    | nil => simp at hl
    | cons x xs => simp
  have h3 := List.any_eq_false.1 hb _ hne
  unfold checkS at h
  rw [if_neg (by omega), if_neg hl, if_neg (by omega), if_neg (by simp [hb])] at h
  generalize xs.getD 0 0 = z at *
  unfold badI at h3
  simp at h3
  refine ⟨by omega, ?_⟩
  by_cases h4 : 1 < z
  · rw [if_pos h4] at h; cases h
  · omega

set_option maxRecDepth 20000 in set_option maxHeartbeats 400000 in
theorem stampParents_any (e : Int) (A : Option Addr) (n c : Nat) (xs : List Int) (w : World) (hs : StIs w e A n c xs) (ht : Pow10 w) :
    Calls Tryd.prog 9 #[.agg #[.int .i64 e, .slice A n c]] w fun e' w' => e' = .returned (.bool true) ∧ Below w.heap.size w w' := by
  obtain ⟨⟨hnc, hcm, hx⟩, hwe⟩ := hs
  have htt := Lib.hid ht
  have hmin : min n 600 ≤ maxLen := by unfold maxLen; omega
  have hmc : min n 600 ≤ c := by omega
  have hxt : Sl w A (min n 600) (i64s (xs.take (min n 600))) := by rw [← i64s_take]; exact hx.take (Nat.min_le_left _ _)
  clear ht
  go_enter Tryd.func9, Tryd.ntmps9
  go_wp2_with fail
  refine (short_any e A n c _ hnc hcm).mono ?_
  rintro e' w1 ⟨rfl, hb⟩
  have k0 := G.cell (a := ⟨w.heap.size, 0, none⟩) (v := .int .i64 e) (by go_simp) hb
  have k1 := G.cell (a := ⟨w.heap.size, 1, none⟩) (v := .slice A n c) (by go_simp) hb
  obtain ⟨hc, hf⟩ := G.old hb
  have hb0 : Below w.heap.size w w1 := by repeat (first | with_reducible assumption | with_reducible exact G.refl _ | with_reducible refine G.drew ?_ | with_reducible refine G.drewN ?_ _ | with_reducible refine G.alloc ?_ _ | with_reducible refine Below.setCell ?_ (by first | (simp; done) | (simp; omega)) _ | with_reducible refine G.trans ?_ hb12 | with_reducible refine G.trans ?_ hb11 | with_reducible refine G.trans ?_ hb10 | with_reducible refine G.trans ?_ hb9 | with_reducible refine G.trans ?_ hb8 | with_reducible refine G.trans ?_ hb7 | with_reducible refine G.trans ?_ hb6 | with_reducible refine G.trans ?_ hb5 | with_reducible refine G.trans ?_ hb4 | with_reducible refine G.trans ?_ hb3 | with_reducible refine G.trans ?_ hb2 | with_reducible refine G.trans ?_ hb1 | with_reducible refine G.trans ?_ hb | assumption)
  generalize min n 600 = m at *
  generalize xs.take m = ys at *
  go_wp2_with fail
  obtain ⟨w2, hw2⟩ : ∃ w2, (w1.setCell ⟨w.heap.size, 0, none⟩ (Value.int .i64 e)).setCell ⟨w.heap.size, 1, none⟩ (Value.slice A m c) = w2 := ⟨_, rfl⟩
  have hb2 : Below w.heap.size w w2 := by subst hw2; repeat (first | with_reducible assumption | with_reducible exact G.refl _ | with_reducible refine G.drew ?_ | with_reducible refine G.drewN ?_ _ | with_reducible refine G.alloc ?_ _ | with_reducible refine Below.setCell ?_ (by first | (simp; done) | (simp; omega)) _ | with_reducible refine G.trans ?_ hb12 | with_reducible refine G.trans ?_ hb11 | with_reducible refine G.trans ?_ hb10 | with_reducible refine G.trans ?_ hb9 | with_reducible refine G.trans ?_ hb8 | with_reducible refine G.trans ?_ hb7 | with_reducible refine G.trans ?_ hb6 | with_reducible refine G.trans ?_ hb5 | with_reducible refine G.trans ?_ hb4 | with_reducible refine G.trans ?_ hb3 | with_reducible refine G.trans ?_ hb2 | with_reducible refine G.trans ?_ hb1 | with_reducible refine G.trans ?_ hb | assumption)
  have j0 : w2.cell? ⟨w.heap.size, 0, none⟩ = some (.int .i64 e) := by subst hw2; go_simp
  have j1 : w2.cell? ⟨w.heap.size, 1, none⟩ = some (.slice A m c) := by subst hw2; go_simp
  have hlt : w.heap.size < w2.heap.size := cell_lt j0
  rw [hw2]
  clear hw2 hb hc hf k0 k1 hb0 hx
  have hx2 := hxt.grow hb2
  have ht2 := Lib.hid (htt.out.grow hb2)
  have hl := hx2.len
  have hC := Lib.hid (fun w hx => lcheck_any e A m c ys w hx hmin)
  by_cases h0 : checkS e ys = 0
  · have h01 := checkS_first h0
    rw [h0] at hC
    have hm5 := (checkS_ok h0).2.2.2.1
    have hm0 := (checkS_ok h0).2.2.1
    rw [hl] at hm5 hm0
    obtain ⟨b, off, x0, rfl, hbl, hx0, hc0⟩ := hx2.at0 (by omega)
    have hg0 : ys.getD 0 0 = x0 := by simp [List.getD, hx0]
    rw [hg0] at h01
    have hm0n : 0 < m := by omega
    have hm0i : (0 : Int) < (m : Int) := by omega
    obtain ⟨h010, h011⟩ := h01
    by_cases h1 : (m : Int) ≤ 2 - x0
    · refine (parent_no2 e _ m c ys _ hx2 hmin h0 (by rw [hg0]; exact h1) (by rw [hg0]; exact ⟨h010, h011⟩)).mono ?_
      rintro e' w3 ⟨A3, c3, rfl, hs3, hl3, hm3, ha3, hb3⟩
      clear hl hg0 hx0
      have i0 := G.cell j0 hb3
      have i1 := G.cell j1 hb3
      have c3' := G.cell hc0 hb3
      have hs3' := Lib.hid hs3
      have hlt3 : w.heap.size < w3.heap.size := Nat.lt_of_lt_of_le hlt hb3.size
      have hbl3 : b < w3.heap.size := Nat.lt_of_lt_of_le hbl hb3.size
      clear hs3
      go_wp2_with fail
      refine (known_any _ (ht2.out.grow (by repeat (first | with_reducible assumption | with_reducible exact G.refl _ | with_reducible refine G.drew ?_ | with_reducible refine G.drewN ?_ _ | with_reducible refine G.alloc ?_ _ | with_reducible refine Below.setCell ?_ (by first | (simp; done) | (simp; omega)) _ | with_reducible refine G.trans ?_ hb12 | with_reducible refine G.trans ?_ hb11 | with_reducible refine G.trans ?_ hb10 | with_reducible refine G.trans ?_ hb9 | with_reducible refine G.trans ?_ hb8 | with_reducible refine G.trans ?_ hb7 | with_reducible refine G.trans ?_ hb6 | with_reducible refine G.trans ?_ hb5 | with_reducible refine G.trans ?_ hb4 | with_reducible refine G.trans ?_ hb3 | with_reducible refine G.trans ?_ hb2 | with_reducible refine G.trans ?_ hb1 | with_reducible refine G.trans ?_ hb | assumption)))).mono ?_
      rintro e' w4 ⟨rfl, hb4⟩
      have g0 := G.cell (a := ⟨w.heap.size, 0, none⟩) (v := .int .i64 e) (by go_simp) hb4
      have g1 := G.cell (a := ⟨w.heap.size, 1, none⟩) (v := .slice (some ⟨b, off, none⟩) m c) (by go_simp) hb4
      have g2 := G.cell (a := ⟨w3.heap.size, 0, none⟩) (v := .int .i64 0) (by go_simp) hb4
      have g3 := G.cell (a := ⟨w3.heap.size, 1, none⟩) (v := .slice A3 0 c3) (by go_simp) hb4
      have g4 := G.cell (a := ⟨b, off, none⟩) (v := .int .i64 x0) (by go_simp) hb4
      go_wp2_with fail
      refine (hC.out _ (hx2.grow (by repeat (first | with_reducible assumption | with_reducible exact G.refl _ | with_reducible refine G.drew ?_ | with_reducible refine G.drewN ?_ _ | with_reducible refine G.alloc ?_ _ | with_reducible refine Below.setCell ?_ (by first | (simp; done) | (simp; omega)) _ | with_reducible refine G.trans ?_ hb12 | with_reducible refine G.trans ?_ hb11 | with_reducible refine G.trans ?_ hb10 | with_reducible refine G.trans ?_ hb9 | with_reducible refine G.trans ?_ hb8 | with_reducible refine G.trans ?_ hb7 | with_reducible refine G.trans ?_ hb6 | with_reducible refine G.trans ?_ hb5 | with_reducible refine G.trans ?_ hb4 | with_reducible refine G.trans ?_ hb3 | with_reducible refine G.trans ?_ hb2 | with_reducible refine G.trans ?_ hb1 | with_reducible refine G.trans ?_ hb | assumption)))).mono ?_
      rintro e' w5 ⟨rfl, hb5⟩
      have f0 := G.cell g0 hb5
      have f1 := G.cell g1 hb5
      have f2 := G.cell g2 hb5
      have f3 := G.cell g3 hb5
      have f4 := G.cell g4 hb5
      have hbw5 : Below w.heap.size w w5 := by repeat (first | with_reducible assumption | with_reducible exact G.refl _ | with_reducible refine G.drew ?_ | with_reducible refine G.drewN ?_ _ | with_reducible refine G.alloc ?_ _ | with_reducible refine Below.setCell ?_ (by first | (simp; done) | (simp; omega)) _ | with_reducible refine G.trans ?_ hb12 | with_reducible refine G.trans ?_ hb11 | with_reducible refine G.trans ?_ hb10 | with_reducible refine G.trans ?_ hb9 | with_reducible refine G.trans ?_ hb8 | with_reducible refine G.trans ?_ hb7 | with_reducible refine G.trans ?_ hb6 | with_reducible refine G.trans ?_ hb5 | with_reducible refine G.trans ?_ hb4 | with_reducible refine G.trans ?_ hb3 | with_reducible refine G.trans ?_ hb2 | with_reducible refine G.trans ?_ hb1 | with_reducible refine G.trans ?_ hb | assumption)
      have hS : Hid (cmpS 0 [] 0 [] = 0) := rfl
      by_cases hm1 : m = 1
      · subst hm1
        go_wp2_with fail
        refine (same_any 0 0 A3 none 0 0 c3 0 [] [] _ (Sl.nil _ _) (Sl.nil _ _) (by simp) (by simp)).mono ?_
        rintro e' w6 ⟨rfl, hb6⟩
        rw [hS.out]
        go_wp2
        go_ret
        exact ⟨rfl, G.trans hbw5 hb6⟩
      · have hm2 : m = 2 := by omega
        have hx00 : x0 = 0 := by omega
        subst hm2 hx00
        go_wp2_with fail
        refine (same_any 0 0 A3 none 0 0 c3 0 [] [] _ (Sl.nil _ _) (Sl.nil _ _) (by simp) (by simp)).mono ?_
        rintro e' w6 ⟨rfl, hb6⟩
        rw [hS.out]
        go_wp2
        go_ret
        exact ⟨rfl, G.trans hbw5 hb6⟩
    · refine (parent_yes e _ m c ys _ hx2 hmc hcm h0 (by rw [hg0]; exact h1) (by rw [hg0]; exact ⟨h010, h011⟩)).mono ?_
      rintro e' w3 ⟨A3, c3, rfl, hs3, hl3, hm3, ha3, hb3⟩
      have hxq : Sl w2 (some ⟨b, off, none⟩) (m - 1) (i64s (ys.take (m - 1))) := by rw [← i64s_take]; exact hx2.take (by omega)
      obtain ⟨p, rfl⟩ : ∃ p, m = p + 1 := ⟨m - 1, by omega⟩
      simp only [Nat.add_sub_cancel] at hxq hs3 hl3 ⊢
      have hlp : (ys.take p).length = p := hxq.len
      rw [hlp] at hs3 hl3
      generalize ys.take p = zs at *
      have hlp' := Lib.hid hlp
      clear hg0 hx0 hl
      rw [hlp]
      clear hlp
      have i0 := G.cell j0 hb3
      have i1 := G.cell j1 hb3
      have c3' := G.cell hc0 hb3
      have hlt3 : w.heap.size < w3.heap.size := Nat.lt_of_lt_of_le hlt hb3.size
      have hbl3 : b < w3.heap.size := Nat.lt_of_lt_of_le hbl hb3.size
      go_wp2_with fail
      refine (known_any _ (ht2.out.grow (by repeat (first | with_reducible assumption | with_reducible exact G.refl _ | with_reducible refine G.drew ?_ | with_reducible refine G.drewN ?_ _ | with_reducible refine G.alloc ?_ _ | with_reducible refine Below.setCell ?_ (by first | (simp; done) | (simp; omega)) _ | with_reducible refine G.trans ?_ hb12 | with_reducible refine G.trans ?_ hb11 | with_reducible refine G.trans ?_ hb10 | with_reducible refine G.trans ?_ hb9 | with_reducible refine G.trans ?_ hb8 | with_reducible refine G.trans ?_ hb7 | with_reducible refine G.trans ?_ hb6 | with_reducible refine G.trans ?_ hb5 | with_reducible refine G.trans ?_ hb4 | with_reducible refine G.trans ?_ hb3 | with_reducible refine G.trans ?_ hb2 | with_reducible refine G.trans ?_ hb1 | with_reducible refine G.trans ?_ hb | assumption)))).mono ?_
      rintro e' w4 ⟨rfl, hb4⟩
      have g0 := G.cell (a := ⟨w.heap.size, 0, none⟩) (v := .int .i64 e) (by go_simp) hb4
      have g1 := G.cell (a := ⟨w.heap.size, 1, none⟩) (v := .slice (some ⟨b, off, none⟩) (p + 1) c) (by go_simp) hb4
      have g2 := G.cell (a := ⟨w3.heap.size, 0, none⟩) (v := .int .i64 e) (by go_simp) hb4
      have g3 := G.cell (a := ⟨w3.heap.size, 1, none⟩) (v := .slice A3 p c3) (by go_simp) hb4
      have g4 := G.cell (a := ⟨b, off, none⟩) (v := .int .i64 x0) (by go_simp) hb4
      go_wp2_with fail
      refine (hC.out _ (hx2.grow (by repeat (first | with_reducible assumption | with_reducible exact G.refl _ | with_reducible refine G.drew ?_ | with_reducible refine G.drewN ?_ _ | with_reducible refine G.alloc ?_ _ | with_reducible refine Below.setCell ?_ (by first | (simp; done) | (simp; omega)) _ | with_reducible refine G.trans ?_ hb12 | with_reducible refine G.trans ?_ hb11 | with_reducible refine G.trans ?_ hb10 | with_reducible refine G.trans ?_ hb9 | with_reducible refine G.trans ?_ hb8 | with_reducible refine G.trans ?_ hb7 | with_reducible refine G.trans ?_ hb6 | with_reducible refine G.trans ?_ hb5 | with_reducible refine G.trans ?_ hb4 | with_reducible refine G.trans ?_ hb3 | with_reducible refine G.trans ?_ hb2 | with_reducible refine G.trans ?_ hb1 | with_reducible refine G.trans ?_ hb | assumption)))).mono ?_
      rintro e' w5 ⟨rfl, hb5⟩
      have f0 := G.cell g0 hb5
      have f1 := G.cell g1 hb5
      have f2 := G.cell g2 hb5
      have f3 := G.cell g3 hb5
      have f4 := G.cell g4 hb5
      have hbw5 : Below w.heap.size w w5 := by repeat (first | with_reducible assumption | with_reducible exact G.refl _ | with_reducible refine G.drew ?_ | with_reducible refine G.drewN ?_ _ | with_reducible refine G.alloc ?_ _ | with_reducible refine Below.setCell ?_ (by first | (simp; done) | (simp; omega)) _ | with_reducible refine G.trans ?_ hb12 | with_reducible refine G.trans ?_ hb11 | with_reducible refine G.trans ?_ hb10 | with_reducible refine G.trans ?_ hb9 | with_reducible refine G.trans ?_ hb8 | with_reducible refine G.trans ?_ hb7 | with_reducible refine G.trans ?_ hb6 | with_reducible refine G.trans ?_ hb5 | with_reducible refine G.trans ?_ hb4 | with_reducible refine G.trans ?_ hb3 | with_reducible refine G.trans ?_ hb2 | with_reducible refine G.trans ?_ hb1 | with_reducible refine G.trans ?_ hb | assumption)
      have hb25 : Below w2.heap.size w2 w5 := by repeat (first | with_reducible assumption | with_reducible exact G.refl _ | with_reducible refine G.drew ?_ | with_reducible refine G.drewN ?_ _ | with_reducible refine G.alloc ?_ _ | with_reducible refine Below.setCell ?_ (by first | (simp; done) | (simp; omega)) _ | with_reducible refine G.trans ?_ hb12 | with_reducible refine G.trans ?_ hb11 | with_reducible refine G.trans ?_ hb10 | with_reducible refine G.trans ?_ hb9 | with_reducible refine G.trans ?_ hb8 | with_reducible refine G.trans ?_ hb7 | with_reducible refine G.trans ?_ hb6 | with_reducible refine G.trans ?_ hb5 | with_reducible refine G.trans ?_ hb4 | with_reducible refine G.trans ?_ hb3 | with_reducible refine G.trans ?_ hb2 | with_reducible refine G.trans ?_ hb1 | with_reducible refine G.trans ?_ hb | assumption)
      have hxq5 := hxq.grow hb25
      have hs35 : Sl w5 A3 p (i64s zs) := Sl.grow (hs3.alloc (.cells #[.int .i64 e, .slice A3 p c3] 24) |>.grow hb4) hb5
      have hl1 : w.heap.size < w5.heap.size := cell_lt f0
      have hl2 : w3.heap.size < w5.heap.size := cell_lt f2
      have hsub0 : IntKind.i64.wrap (p : Int) = (p : Int) := IntWalk.i64_in _ (by omega)
      have hsub1 : IntKind.i64.wrap ((p : Int) + 1 - 1) = (p : Int) := by rw [IntWalk.i64_in _ (by omega)]; omega
      have hp0 : (0 : Int) ≤ (p : Int) := by omega
      have hpc : (p : Int) ≤ (c : Int) := by omega
      have hS : Hid (cmpS e zs e zs = 0) := cmpS_zero.2 ⟨rfl, rfl⟩
      have hpm : p ≤ maxLen := by unfold maxLen; omega
      have hdec : Hid (decide (cmpS e zs e zs = 0) = true) := by unfold Hid; simp [hS.out]
      have hm1 : ¬ (p : Int) + 1 = 1 := by omega
      have hm1b : ((p : Int) + 1 == 1) = false := by simp; omega
      have hp00 : ¬ p = 0 := by omega
      have L := Lib.hid (fun wq hq1 hq2 => hdec.out ▸ same_any e e A3 (some ⟨b, off, none⟩) p p c3 c zs zs wq hq1 hq2 hpm hpm)
      clear hb2 hb3 hb4 hb5
      by_cases hx01 : x0 = 1
      · subst hx01
        go_wp2_with fail
        (refine wp_region_grow (by kernel_rfl) (by kernel_rfl) ?_)
        (repeat ((with_reducible refine wpQuiet_step ?_); intro K hK; first | ((with_reducible refine q_skip ?_ ?_); (focus (go_simp; done)); go_simp; (with_reducible refine hK _ ?_); clear hK K) | ((with_reducible refine q_any ?_ ?_); (focus (go_simp; done)); apply Exists.intro; refine And.intro ?_ ?_; (focus (intro wq hq; obtain ⟨hcq, hfq⟩ := G.old hq; go_simp; (first | done | (go_at_call 23; refine (L.out _ (hs35.grow hq.b) (hxq5.grow hq.b)).mono (fun e w' h => ⟨h.1, Grew.trans hq h.2⟩)) | exact rfl); done)); go_simp; (with_reducible refine hK _ ?_); clear hK K) | fail))
        ((with_reducible refine wpQuiet_nil ?_); intro w6 hb6)
        go_wp2
        go_ret
        exact ⟨rfl, G.trans hbw5 hb6.b⟩
      · have hx00 : x0 = 0 := by omega
        subst hx00
        have hm2b : ((p : Int) + 1 == 2) = false := by simp; omega
        have hp1 : ¬ p = 1 := by omega
        go_wp2_with fail
        (refine wp_region_grow (by kernel_rfl) (by kernel_rfl) ?_)
        (repeat ((with_reducible refine wpQuiet_step ?_); intro K hK; first | ((with_reducible refine q_skip ?_ ?_); (focus (go_simp; done)); go_simp; (with_reducible refine hK _ ?_); clear hK K) | ((with_reducible refine q_any ?_ ?_); (focus (go_simp; done)); apply Exists.intro; refine And.intro ?_ ?_; (focus (intro wq hq; obtain ⟨hcq, hfq⟩ := G.old hq; go_simp; (first | done | (go_at_call 23; refine (L.out _ (hs35.grow hq.b) (hxq5.grow hq.b)).mono (fun e w' h => ⟨h.1, Grew.trans hq h.2⟩)) | exact rfl); done)); go_simp; (with_reducible refine hK _ ?_); clear hK K) | fail))
        ((with_reducible refine wpQuiet_nil ?_); intro w6 hb6)
        go_wp2
        go_ret
        exact ⟨rfl, G.trans hbw5 hb6.b⟩
  · refine (parent_no1 e _ m c ys _ hx2 hmin h0).mono ?_
    rintro e' w3 ⟨A3, c3, rfl, hs3, hl3, hm3, ha3, hb3⟩
    have hz : (checkS e ys != 0) = true := by simp [h0]
    clear hl h0
    generalize checkS e ys = z at *
    have i0 := G.cell j0 hb3
    have i1 := G.cell j1 hb3
    have hs3' := Lib.hid hs3
    have hlt3 : w.heap.size < w3.heap.size := Nat.lt_of_lt_of_le hlt hb3.size
    clear hs3
    go_wp2_with fail
    refine (known_any _ (ht2.out.grow (by repeat (first | with_reducible assumption | with_reducible exact G.refl _ | with_reducible refine G.drew ?_ | with_reducible refine G.drewN ?_ _ | with_reducible refine G.alloc ?_ _ | with_reducible refine Below.setCell ?_ (by first | (simp; done) | (simp; omega)) _ | with_reducible refine G.trans ?_ hb12 | with_reducible refine G.trans ?_ hb11 | with_reducible refine G.trans ?_ hb10 | with_reducible refine G.trans ?_ hb9 | with_reducible refine G.trans ?_ hb8 | with_reducible refine G.trans ?_ hb7 | with_reducible refine G.trans ?_ hb6 | with_reducible refine G.trans ?_ hb5 | with_reducible refine G.trans ?_ hb4 | with_reducible refine G.trans ?_ hb3 | with_reducible refine G.trans ?_ hb2 | with_reducible refine G.trans ?_ hb1 | with_reducible refine G.trans ?_ hb | assumption)))).mono ?_
    rintro e' w4 ⟨rfl, hb4⟩
    have g0 := G.cell (a := ⟨w.heap.size, 0, none⟩) (v := .int .i64 e) (by go_simp) hb4
    have g1 := G.cell (a := ⟨w.heap.size, 1, none⟩) (v := .slice A m c) (by go_simp) hb4
    have g2 := G.cell (a := ⟨w3.heap.size, 0, none⟩) (v := .int .i64 0) (by go_simp) hb4
    have g3 := G.cell (a := ⟨w3.heap.size, 1, none⟩) (v := .slice A3 0 c3) (by go_simp) hb4
    go_wp2_with fail
    refine (hC.out _ (hx2.grow (by repeat (first | with_reducible assumption | with_reducible exact G.refl _ | with_reducible refine G.drew ?_ | with_reducible refine G.drewN ?_ _ | with_reducible refine G.alloc ?_ _ | with_reducible refine Below.setCell ?_ (by first | (simp; done) | (simp; omega)) _ | with_reducible refine G.trans ?_ hb12 | with_reducible refine G.trans ?_ hb11 | with_reducible refine G.trans ?_ hb10 | with_reducible refine G.trans ?_ hb9 | with_reducible refine G.trans ?_ hb8 | with_reducible refine G.trans ?_ hb7 | with_reducible refine G.trans ?_ hb6 | with_reducible refine G.trans ?_ hb5 | with_reducible refine G.trans ?_ hb4 | with_reducible refine G.trans ?_ hb3 | with_reducible refine G.trans ?_ hb2 | with_reducible refine G.trans ?_ hb1 | with_reducible refine G.trans ?_ hb | assumption)))).mono ?_
    rintro e' w5 ⟨rfl, hb5⟩
    have f2 := G.cell g2 hb5
    have f3 := G.cell g3 hb5
    have hbw5 : Below w.heap.size w w5 := by repeat (first | with_reducible assumption | with_reducible exact G.refl _ | with_reducible refine G.drew ?_ | with_reducible refine G.drewN ?_ _ | with_reducible refine G.alloc ?_ _ | with_reducible refine Below.setCell ?_ (by first | (simp; done) | (simp; omega)) _ | with_reducible refine G.trans ?_ hb12 | with_reducible refine G.trans ?_ hb11 | with_reducible refine G.trans ?_ hb10 | with_reducible refine G.trans ?_ hb9 | with_reducible refine G.trans ?_ hb8 | with_reducible refine G.trans ?_ hb7 | with_reducible refine G.trans ?_ hb6 | with_reducible refine G.trans ?_ hb5 | with_reducible refine G.trans ?_ hb4 | with_reducible refine G.trans ?_ hb3 | with_reducible refine G.trans ?_ hb2 | with_reducible refine G.trans ?_ hb1 | with_reducible refine G.trans ?_ hb | assumption)
    have hS : Hid (cmpS 0 [] 0 [] = 0) := rfl
    go_wp2_with fail
    refine (same_any 0 0 A3 none 0 0 c3 0 [] [] _ (Sl.nil _ _) (Sl.nil _ _) (by simp) (by simp)).mono ?_
    rintro e' w6 ⟨rfl, hb6⟩
    rw [hS.out]
    go_wp2
    go_ret
    exact ⟨rfl, G.trans hbw5 hb6⟩
end Go.Proofs.YtjldpodehffbnaaDoor
