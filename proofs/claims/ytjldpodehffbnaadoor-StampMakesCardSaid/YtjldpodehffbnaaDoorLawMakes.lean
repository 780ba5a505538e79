/- The law StampMakes returns true: the walk. -/
import Derived.Test.YtjldpodehffbnaaDoorKnown
namespace Go.Proofs.YtjldpodehffbnaaDoor
set_option linter.unusedVariables false
open Go.RowKit

theorem madeBad0 {e : Int} : madeBad e 0 = (decide (e < 1) || decide (1048576 < e)) := by unfold madeBad; simp
theorem madeBad_entry {e k : Int} (h : madeBad e 0 = true) : madeBad e k = true := by
  rw [madeBad0] at h; unfold madeBad; rw [h]; simp
theorem madeBad_node {e k : Int} (h : madeBad e 0 = false) : madeBad e k = (decide (k < 0) || decide (128 ≤ k)) := by
  rw [madeBad0] at h; unfold madeBad; rw [h]; simp
/-- Whatever the node: a stamp, or the zero stamp. -/
theorem clock_some (e k : Int) (w : World) : Calls Tryd.prog 22 #[.int .i64 e, .int .i64 k] w (if madeBad e k = true then RetSt 0 [] 2 w else RetSt e [0, k] 0 w) := by
  by_cases h : madeBad e k = true
  · rw [if_pos h]; exact clock_bad e k w h
  · rw [if_neg h]; exact clock_ok e k w (by simpa using h)

set_option maxRecDepth 20000 in set_option maxHeartbeats 400000 in
theorem makes_bad (e k o : Int) (w : World) (ht : Pow10 w) (h : madeBad e 0 = true) :
    Calls Tryd.prog 5 #[.int .i64 e, .int .i64 k, .int .i64 o] w fun e' w' => e' = .returned (.bool true) ∧ Below w.heap.size w w' := by
  have htt := Lib.hid ht
  have B1 := Lib.hid (fun w => arrival_bad e w h)
  have B2 := Lib.hid (fun w => clock_bad e k w (madeBad_entry h))
  have B3 := Lib.hid (fun w => clock_bad e o w (madeBad_entry h))
  have he : e < 1 ∨ 1048576 < e := by rw [madeBad0] at h; simpa using h
  have hS : Hid (cmpS 0 [] 0 [] = 0) := rfl
  clear ht h
  go_enter Tryd.func5, Tryd.ntmps5
  go_wp2_with fail
  refine (B1.out _).mono ?_
  rintro e' w1 ⟨A1, c1, rfl, hs1, hl1, hm1, ha1, hb1⟩
  simp only [List.length_nil] at hs1 hl1 ⊢
  go_wp2_with fail
  refine (B2.out _).mono ?_
  rintro e' w2 ⟨A2, c2, rfl, hs2, hl2, hm2, ha2, hb2⟩
  have k0 := G.cell (a := ⟨w1.heap.size, 0, none⟩) (v := .int .i64 0) (by go_simp) hb2
  have k1 := G.cell (a := ⟨w1.heap.size, 1, none⟩) (v := .slice A1 0 c1) (by go_simp) hb2
  simp only [List.length_nil] at hs2 hl2 ⊢
  have lt1 : w1.heap.size < w2.heap.size := cell_lt k0
  go_wp2_with fail
  refine (B3.out _).mono ?_
  rintro e' w3 ⟨A3, c3, rfl, hs3, hl3, hm3, ha3, hb3⟩
  have j0 := G.cell (a := ⟨w1.heap.size, 0, none⟩) (v := .int .i64 0) (by go_simp) hb3
  have j1 := G.cell (a := ⟨w1.heap.size, 1, none⟩) (v := .slice A1 0 c1) (by go_simp) hb3
  have j2 := G.cell (a := ⟨w2.heap.size, 0, none⟩) (v := .int .i64 0) (by go_simp) hb3
  have j3 := G.cell (a := ⟨w2.heap.size, 1, none⟩) (v := .slice A2 0 c2) (by go_simp) hb3
  have lt2 : w2.heap.size < w3.heap.size := cell_lt j2
  have lt3 : w1.heap.size < w3.heap.size := cell_lt j0
  simp only [List.length_nil] at hs3 hl3 ⊢
  go_wp2_with fail
  refine (known_any _ (htt.out.grow (by repeat (first | with_reducible assumption | with_reducible exact G.refl _ | with_reducible refine G.drew ?_ | with_reducible refine G.drewN ?_ _ | with_reducible refine G.alloc ?_ _ | with_reducible refine Below.setCell ?_ (by first | (simp; done) | (simp; omega)) _ | with_reducible refine G.trans ?_ hb7 | with_reducible refine G.trans ?_ hb6 | with_reducible refine G.trans ?_ hb5 | with_reducible refine G.trans ?_ hb4 | with_reducible refine G.trans ?_ hb3 | with_reducible refine G.trans ?_ hb2 | with_reducible refine G.trans ?_ hb1 | with_reducible refine G.trans ?_ hb | assumption)))).mono ?_
  rintro e' w4 ⟨rfl, hb4⟩
  have i0 := G.cell (a := ⟨w1.heap.size, 0, none⟩) (v := .int .i64 0) (by go_simp) hb4
  have i1 := G.cell (a := ⟨w1.heap.size, 1, none⟩) (v := .slice A1 0 c1) (by go_simp) hb4
  have i2 := G.cell (a := ⟨w2.heap.size, 0, none⟩) (v := .int .i64 0) (by go_simp) hb4
  have i3 := G.cell (a := ⟨w2.heap.size, 1, none⟩) (v := .slice A2 0 c2) (by go_simp) hb4
  have hbw4 : Below w.heap.size w w4 := by repeat (first | with_reducible assumption | with_reducible exact G.refl _ | with_reducible refine G.drew ?_ | with_reducible refine G.drewN ?_ _ | with_reducible refine G.alloc ?_ _ | with_reducible refine Below.setCell ?_ (by first | (simp; done) | (simp; omega)) _ | with_reducible refine G.trans ?_ hb7 | with_reducible refine G.trans ?_ hb6 | with_reducible refine G.trans ?_ hb5 | with_reducible refine G.trans ?_ hb4 | with_reducible refine G.trans ?_ hb3 | with_reducible refine G.trans ?_ hb2 | with_reducible refine G.trans ?_ hb1 | with_reducible refine G.trans ?_ hb | assumption)
  clear hs1 hs2 hs3
  rcases he with he | he
  · go_wp2_with fail
    refine (same_any 0 0 A1 none 0 0 c1 0 [] [] _ (Sl.nil _ _) (Sl.nil _ _) (by simp) (by simp)).mono ?_
    rintro e' w5 ⟨rfl, hb5⟩
    rw [hS.out]
    have d2 := G.cell i2 hb5
    have d3 := G.cell i3 hb5
    go_wp2_with fail
    refine (same_any 0 0 A2 none 0 0 c2 0 [] [] _ (Sl.nil _ _) (Sl.nil _ _) (by simp) (by simp)).mono ?_
    rintro e' w6 ⟨rfl, hb6⟩
    rw [hS.out]
    go_wp2
    go_ret
    exact ⟨rfl, G.trans (G.trans hbw4 hb5) hb6⟩
  · have he1 : ¬ e < 1 := by omega
    go_wp2_with fail
    refine (same_any 0 0 A1 none 0 0 c1 0 [] [] _ (Sl.nil _ _) (Sl.nil _ _) (by simp) (by simp)).mono ?_
    rintro e' w5 ⟨rfl, hb5⟩
    rw [hS.out]
    have d2 := G.cell i2 hb5
    have d3 := G.cell i3 hb5
    go_wp2_with fail
    refine (same_any 0 0 A2 none 0 0 c2 0 [] [] _ (Sl.nil _ _) (Sl.nil _ _) (by simp) (by simp)).mono ?_
    rintro e' w6 ⟨rfl, hb6⟩
    rw [hS.out]
    go_wp2
    go_ret
    exact ⟨rfl, G.trans (G.trans hbw4 hb5) hb6⟩

set_option maxRecDepth 20000 in set_option maxHeartbeats 400000 in
theorem makes_nodebad (e k o : Int) (w : World) (ht : Pow10 w) (h : madeBad e 0 = false) (hk : madeBad e k = true) :
    Calls Tryd.prog 5 #[.int .i64 e, .int .i64 k, .int .i64 o] w fun e' w' => e' = .returned (.bool true) ∧ Below w.heap.size w w' := by
  have htt := Lib.hid ht
  have B1 := Lib.hid (fun w => arrival_ok e w h)
  have B2 := Lib.hid (fun w => clock_bad e k w hk)
  have he : ¬ e < 1 ∧ ¬ 1048576 < e := by rw [madeBad0] at h; simpa using h
  have hkk : k < 0 ∨ 128 ≤ k := by rw [madeBad_node h] at hk; simpa using hk
  have hS : Hid (cmpS 0 [] 0 [] = 0) := rfl
  have hS1 : Hid (cmpS e [1] e [1] = 0) := cmpS_zero.2 ⟨rfl, rfl⟩
  have B3 := Lib.hid (fun w => clock_some e o w)
  obtain ⟨he1, he2⟩ := he
  clear ht h hk
  go_enter Tryd.func5, Tryd.ntmps5
  go_wp2_with fail
  refine (B1.out _).mono ?_
  rintro e' w1 ⟨A1, c1, rfl, hs1, hl1, hm1, ha1, hb1⟩
  simp only [List.length_nil, List.length_cons, Nat.zero_add] at hs1 hl1 ⊢
  go_wp2_with fail
  refine (B2.out _).mono ?_
  rintro e' w2 ⟨A2, c2, rfl, hs2, hl2, hm2, ha2, hb2⟩
  have k0 := G.cell (a := ⟨w1.heap.size, 0, none⟩) (v := .int .i64 e) (by go_simp) hb2
  have k1 := G.cell (a := ⟨w1.heap.size, 1, none⟩) (v := .slice A1 1 c1) (by go_simp) hb2
  have hs1' := Sl.grow (hs1.alloc (.cells #[.int .i64 e, .slice A1 1 c1] 24)) hb2
  simp only [List.length_nil] at hs2 hl2 ⊢
  have lt1 : w1.heap.size < w2.heap.size := cell_lt k0
  clear hs1 hs2
  go_wp2_with fail
  refine (B3.out _).mono ?_
  intro e' w3 hR
  have hR' : ∃ v e3 A3 n3 c3, e' = .returned (.tuple #[.agg #[.int .i64 e3, .slice A3 n3 c3], .int .i64 v]) ∧ Below (w2.alloc (.cells #[.int .i64 0, .slice A2 0 c2] 24)).heap.size (w2.alloc (.cells #[.int .i64 0, .slice A2 0 c2] 24)) w3 := by
    split at hR
    · obtain ⟨A3, c3, rfl, _, _, _, _, hb3⟩ := hR; exact ⟨_, _, _, _, _, rfl, hb3⟩
    · obtain ⟨A3, c3, rfl, _, _, _, _, hb3⟩ := hR; exact ⟨_, _, _, _, _, rfl, hb3⟩
  clear hR
  obtain ⟨v, e3, A3, n3, c3, rfl, hb3⟩ := hR'
  have j0 := G.cell (a := ⟨w1.heap.size, 0, none⟩) (v := .int .i64 e) (by go_simp) hb3
  have j1 := G.cell (a := ⟨w1.heap.size, 1, none⟩) (v := .slice A1 1 c1) (by go_simp) hb3
  have j2 := G.cell (a := ⟨w2.heap.size, 0, none⟩) (v := .int .i64 0) (by go_simp) hb3
  have j3 := G.cell (a := ⟨w2.heap.size, 1, none⟩) (v := .slice A2 0 c2) (by go_simp) hb3
  have hs1'' := Sl.grow (hs1'.alloc (.cells #[.int .i64 0, .slice A2 0 c2] 24)) hb3
  have lt2 : w2.heap.size < w3.heap.size := cell_lt j2
  have lt3 : w1.heap.size < w3.heap.size := cell_lt j0
  clear hs1'
  go_wp2_with fail
  refine (known_any _ (htt.out.grow (by repeat (first | with_reducible assumption | with_reducible exact G.refl _ | with_reducible refine G.drew ?_ | with_reducible refine G.drewN ?_ _ | with_reducible refine G.alloc ?_ _ | with_reducible refine Below.setCell ?_ (by first | (simp; done) | (simp; omega)) _ | with_reducible refine G.trans ?_ hb7 | with_reducible refine G.trans ?_ hb6 | with_reducible refine G.trans ?_ hb5 | with_reducible refine G.trans ?_ hb4 | with_reducible refine G.trans ?_ hb3 | with_reducible refine G.trans ?_ hb2 | with_reducible refine G.trans ?_ hb1 | with_reducible refine G.trans ?_ hb | assumption)))).mono ?_
  rintro e' w4 ⟨rfl, hb4⟩
  have i0 := G.cell (a := ⟨w1.heap.size, 0, none⟩) (v := .int .i64 e) (by go_simp) hb4
  have i1 := G.cell (a := ⟨w1.heap.size, 1, none⟩) (v := .slice A1 1 c1) (by go_simp) hb4
  have i2 := G.cell (a := ⟨w2.heap.size, 0, none⟩) (v := .int .i64 0) (by go_simp) hb4
  have i3 := G.cell (a := ⟨w2.heap.size, 1, none⟩) (v := .slice A2 0 c2) (by go_simp) hb4
  have s1 := Sl.grow (hs1''.alloc (.cells #[.int .i64 e3, .slice A3 n3 c3] 24)) hb4
  have hbw4 : Below w.heap.size w w4 := by repeat (first | with_reducible assumption | with_reducible exact G.refl _ | with_reducible refine G.drew ?_ | with_reducible refine G.drewN ?_ _ | with_reducible refine G.alloc ?_ _ | with_reducible refine Below.setCell ?_ (by first | (simp; done) | (simp; omega)) _ | with_reducible refine G.trans ?_ hb7 | with_reducible refine G.trans ?_ hb6 | with_reducible refine G.trans ?_ hb5 | with_reducible refine G.trans ?_ hb4 | with_reducible refine G.trans ?_ hb3 | with_reducible refine G.trans ?_ hb2 | with_reducible refine G.trans ?_ hb1 | with_reducible refine G.trans ?_ hb | assumption)
  have lt4 : w2.heap.size < w4.heap.size := cell_lt i2
  clear hs1''
  go_wp2_with fail
  refine (same_any e e A1 (some ⟨w4.heap.size, 0, none⟩) 1 1 c1 1 [1] [1] _ (by repeat (first | with_reducible assumption | with_reducible exact Sl.new' (by simp; done) (by simp; done) (by simp; done) | with_reducible refine Sl.drew ?_ | with_reducible refine Sl.drewN ?_ _ | with_reducible refine Sl.alloc ?_ _ | with_reducible refine Sl.grow ?_ hb7 | with_reducible refine Sl.grow ?_ hb6 | with_reducible refine Sl.grow ?_ hb5 | with_reducible refine Sl.grow ?_ hb4 | with_reducible refine Sl.grow ?_ hb3 | with_reducible refine Sl.grow ?_ hb2 | with_reducible refine Sl.grow ?_ hb1 | with_reducible refine Sl.grow ?_ hb | assumption)) (by repeat (first | with_reducible assumption | with_reducible exact Sl.new' (by simp; done) (by simp; done) (by simp; done) | with_reducible refine Sl.drew ?_ | with_reducible refine Sl.drewN ?_ _ | with_reducible refine Sl.alloc ?_ _ | with_reducible refine Sl.grow ?_ hb7 | with_reducible refine Sl.grow ?_ hb6 | with_reducible refine Sl.grow ?_ hb5 | with_reducible refine Sl.grow ?_ hb4 | with_reducible refine Sl.grow ?_ hb3 | with_reducible refine Sl.grow ?_ hb2 | with_reducible refine Sl.grow ?_ hb1 | with_reducible refine Sl.grow ?_ hb | assumption)) (by simp [maxLen]) (by simp [maxLen])).mono ?_
  rintro e' w5 ⟨rfl, hb5⟩
  rw [hS1.out]
  have d2 := G.cell (a := ⟨w2.heap.size, 0, none⟩) (v := .int .i64 0) (by go_simp) hb5
  have d3 := G.cell (a := ⟨w2.heap.size, 1, none⟩) (v := .slice A2 0 c2) (by go_simp) hb5
  have hbw5 : Below w.heap.size w w5 := by repeat (first | with_reducible assumption | with_reducible exact G.refl _ | with_reducible refine G.drew ?_ | with_reducible refine G.drewN ?_ _ | with_reducible refine G.alloc ?_ _ | with_reducible refine Below.setCell ?_ (by first | (simp; done) | (simp; omega)) _ | with_reducible refine G.trans ?_ hb7 | with_reducible refine G.trans ?_ hb6 | with_reducible refine G.trans ?_ hb5 | with_reducible refine G.trans ?_ hb4 | with_reducible refine G.trans ?_ hb3 | with_reducible refine G.trans ?_ hb2 | with_reducible refine G.trans ?_ hb1 | with_reducible refine G.trans ?_ hb | assumption)
  rcases hkk with hk | hk
  · go_wp2_with fail
    refine (same_any 0 0 A2 none 0 0 c2 0 [] [] _ (Sl.nil _ _) (Sl.nil _ _) (by simp) (by simp)).mono ?_
    rintro e' w6 ⟨rfl, hb6⟩
    rw [hS.out]
    go_wp2
    go_ret
    exact ⟨rfl, G.trans hbw5 hb6⟩
  · have hk1 : ¬ k < 0 := by omega
    go_wp2_with fail
    refine (same_any 0 0 A2 none 0 0 c2 0 [] [] _ (Sl.nil _ _) (Sl.nil _ _) (by simp) (by simp)).mono ?_
    rintro e' w6 ⟨rfl, hb6⟩
    rw [hS.out]
    go_wp2
    go_ret
    exact ⟨rfl, G.trans hbw5 hb6⟩

set_option maxRecDepth 20000 in set_option maxHeartbeats 400000 in
theorem makes_ok (e k o : Int) (w : World) (ht : Pow10 w) (h : madeBad e 0 = false) (hk : madeBad e k = false) :
    Calls Tryd.prog 5 #[.int .i64 e, .int .i64 k, .int .i64 o] w fun e' w' => e' = .returned (.bool true) ∧ Below w.heap.size w w' := by
  have htt := Lib.hid ht
  have B1 := Lib.hid (fun w => arrival_ok e w h)
  have B2 := Lib.hid (fun w => clock_ok e k w hk)
  have he : ¬ e < 1 ∧ ¬ 1048576 < e := by rw [madeBad0] at h; simpa using h
  have hkk : ¬ k < 0 ∧ ¬ 128 ≤ k := by rw [madeBad_node h] at hk; simpa using hk
  obtain ⟨hk0, hk1⟩ := hkk
  have hC1 : Hid (cmpS e [0, k] e [1] = -1) := by unfold Hid; rw [cmpS_same]; rfl
  have hC2 : Hid (decide (cmpS e [0, k] e [0, o] < 0) = decide (k < o)) := by
    unfold Hid
    rw [cmpS_same]
    have : cmpL [0, k] [0, o] = cmpI k o := by
      simp only [cmpL]
      rw [if_pos (cmpI_zero.2 rfl)]
      split
      · rename_i h0; exact h0.symm
      · rfl
    rw [this, dec_lt]
  have hSk : Hid (cmpS e [0, k] e [0, k] = 0) := cmpS_zero.2 ⟨rfl, rfl⟩
  have hS : Hid (cmpS 0 [] 0 [] = 0) := rfl
  have hS1 : Hid (cmpS e [1] e [1] = 0) := cmpS_zero.2 ⟨rfl, rfl⟩
  have B3 := Lib.hid (fun w => clock_some e o w)
  have hoc : Hid (madeBad e o = true ∨ madeBad e o = false) := by unfold Hid; cases madeBad e o <;> simp
  obtain ⟨he1, he2⟩ := he
  clear ht h hk
  go_enter Tryd.func5, Tryd.ntmps5
  go_wp2_with fail
  refine (B1.out _).mono ?_
  rintro e' w1 ⟨A1, c1, rfl, hs1, hl1, hm1, ha1, hb1⟩
  simp only [List.length_nil, List.length_cons, Nat.zero_add] at hs1 hl1 ⊢
  go_wp2_with fail
  refine (B2.out _).mono ?_
  rintro e' w2 ⟨A2, c2, rfl, hs2, hl2, hm2, ha2, hb2⟩
  have k0 := G.cell (a := ⟨w1.heap.size, 0, none⟩) (v := .int .i64 e) (by go_simp) hb2
  have k1 := G.cell (a := ⟨w1.heap.size, 1, none⟩) (v := .slice A1 1 c1) (by go_simp) hb2
  have hs1' := Sl.grow (hs1.alloc (.cells #[.int .i64 e, .slice A1 1 c1] 24)) hb2
  simp only [List.length_nil, List.length_cons, Nat.zero_add, Nat.reduceAdd] at hs2 hl2 ⊢
  have lt1 : w1.heap.size < w2.heap.size := cell_lt k0
  clear hs1
  go_wp2_with fail
  refine (B3.out _).mono ?_
  intro e' w3 hR
  have hR' : ∃ v e3 A3 n3 c3 zs, e' = .returned (.tuple #[.agg #[.int .i64 e3, .slice A3 n3 c3], .int .i64 v]) ∧ Below (w2.alloc (.cells #[.int .i64 e, .slice A2 2 c2] 24)).heap.size (w2.alloc (.cells #[.int .i64 e, .slice A2 2 c2] 24)) w3 ∧ Sl w3 A3 n3 (i64s zs) ∧ ((v = 2) ∨ (v = 0 ∧ e3 = e ∧ n3 = 2 ∧ zs = [0, o])) := by
    split at hR
    · obtain ⟨A3, c3, rfl, hz, _, _, _, hb3⟩ := hR; exact ⟨_, _, _, _, _, _, rfl, hb3, hz, .inl rfl⟩
    · obtain ⟨A3, c3, rfl, hz, _, _, _, hb3⟩ := hR; exact ⟨_, _, _, _, _, _, rfl, hb3, hz, .inr ⟨rfl, rfl, rfl, rfl⟩⟩
  clear hR
  obtain ⟨v, e3, A3, n3, c3, zs, rfl, hb3, hs3, hv⟩ := hR'
  have hv' := Lib.hid hv
  clear hv hoc
  have j0 := G.cell (a := ⟨w1.heap.size, 0, none⟩) (v := .int .i64 e) (by go_simp) hb3
  have j1 := G.cell (a := ⟨w1.heap.size, 1, none⟩) (v := .slice A1 1 c1) (by go_simp) hb3
  have j2 := G.cell (a := ⟨w2.heap.size, 0, none⟩) (v := .int .i64 e) (by go_simp) hb3
  have j3 := G.cell (a := ⟨w2.heap.size, 1, none⟩) (v := .slice A2 2 c2) (by go_simp) hb3
  have hs1'' := Sl.grow (hs1'.alloc (.cells #[.int .i64 e, .slice A2 2 c2] 24)) hb3
  have hs2' := Sl.grow (hs2.alloc (.cells #[.int .i64 e, .slice A2 2 c2] 24)) hb3
  have lt2 : w2.heap.size < w3.heap.size := cell_lt j2
  have lt3 : w1.heap.size < w3.heap.size := cell_lt j0
  clear hs1' hs2
  go_wp2_with fail
  refine (known_any _ (htt.out.grow (by repeat (first | with_reducible assumption | with_reducible exact G.refl _ | with_reducible refine G.drew ?_ | with_reducible refine G.drewN ?_ _ | with_reducible refine G.alloc ?_ _ | with_reducible refine Below.setCell ?_ (by first | (simp; done) | (simp; omega)) _ | with_reducible refine G.trans ?_ hb7 | with_reducible refine G.trans ?_ hb6 | with_reducible refine G.trans ?_ hb5 | with_reducible refine G.trans ?_ hb4 | with_reducible refine G.trans ?_ hb3 | with_reducible refine G.trans ?_ hb2 | with_reducible refine G.trans ?_ hb1 | with_reducible refine G.trans ?_ hb | assumption)))).mono ?_
  rintro e' w4 ⟨rfl, hb4⟩
  have i0 := G.cell (a := ⟨w1.heap.size, 0, none⟩) (v := .int .i64 e) (by go_simp) hb4
  have i1 := G.cell (a := ⟨w1.heap.size, 1, none⟩) (v := .slice A1 1 c1) (by go_simp) hb4
  have i2 := G.cell (a := ⟨w2.heap.size, 0, none⟩) (v := .int .i64 e) (by go_simp) hb4
  have i3 := G.cell (a := ⟨w2.heap.size, 1, none⟩) (v := .slice A2 2 c2) (by go_simp) hb4
  have i4 := G.cell (a := ⟨w3.heap.size, 0, none⟩) (v := .int .i64 e3) (by go_simp) hb4
  have i5 := G.cell (a := ⟨w3.heap.size, 1, none⟩) (v := .slice A3 n3 c3) (by go_simp) hb4
  have s1 := Sl.grow (hs1''.alloc (.cells #[.int .i64 e3, .slice A3 n3 c3] 24)) hb4
  have s2 := Sl.grow (hs2'.alloc (.cells #[.int .i64 e3, .slice A3 n3 c3] 24)) hb4
  have s3 := Sl.grow (hs3.alloc (.cells #[.int .i64 e3, .slice A3 n3 c3] 24)) hb4
  have hbw4 : Below w.heap.size w w4 := by repeat (first | with_reducible assumption | with_reducible exact G.refl _ | with_reducible refine G.drew ?_ | with_reducible refine G.drewN ?_ _ | with_reducible refine G.alloc ?_ _ | with_reducible refine Below.setCell ?_ (by first | (simp; done) | (simp; omega)) _ | with_reducible refine G.trans ?_ hb7 | with_reducible refine G.trans ?_ hb6 | with_reducible refine G.trans ?_ hb5 | with_reducible refine G.trans ?_ hb4 | with_reducible refine G.trans ?_ hb3 | with_reducible refine G.trans ?_ hb2 | with_reducible refine G.trans ?_ hb1 | with_reducible refine G.trans ?_ hb | assumption)
  have lt4 : w2.heap.size < w4.heap.size := cell_lt i2
  have lt5 : w1.heap.size < w4.heap.size := cell_lt i0
  have lt6 : w3.heap.size < w4.heap.size := cell_lt i4
  clear hs1'' hs2' hs3
  go_wp2_with fail
  refine (same_any e e A1 (some ⟨w4.heap.size, 0, none⟩) 1 1 c1 1 [1] [1] _ (by repeat (first | with_reducible assumption | with_reducible exact Sl.new' (by simp; done) (by simp; done) (by simp; done) | with_reducible refine Sl.drew ?_ | with_reducible refine Sl.drewN ?_ _ | with_reducible refine Sl.alloc ?_ _ | with_reducible refine Sl.grow ?_ hb7 | with_reducible refine Sl.grow ?_ hb6 | with_reducible refine Sl.grow ?_ hb5 | with_reducible refine Sl.grow ?_ hb4 | with_reducible refine Sl.grow ?_ hb3 | with_reducible refine Sl.grow ?_ hb2 | with_reducible refine Sl.grow ?_ hb1 | with_reducible refine Sl.grow ?_ hb | assumption)) (by repeat (first | with_reducible assumption | with_reducible exact Sl.new' (by simp; done) (by simp; done) (by simp; done) | with_reducible refine Sl.drew ?_ | with_reducible refine Sl.drewN ?_ _ | with_reducible refine Sl.alloc ?_ _ | with_reducible refine Sl.grow ?_ hb7 | with_reducible refine Sl.grow ?_ hb6 | with_reducible refine Sl.grow ?_ hb5 | with_reducible refine Sl.grow ?_ hb4 | with_reducible refine Sl.grow ?_ hb3 | with_reducible refine Sl.grow ?_ hb2 | with_reducible refine Sl.grow ?_ hb1 | with_reducible refine Sl.grow ?_ hb | assumption)) (by simp [maxLen]) (by simp [maxLen])).mono ?_
  rintro e' w5 ⟨rfl, hb5⟩
  rw [hS1.out]
  have d0 := G.cell (a := ⟨w1.heap.size, 0, none⟩) (v := .int .i64 e) (by go_simp) hb5
  have d1 := G.cell (a := ⟨w1.heap.size, 1, none⟩) (v := .slice A1 1 c1) (by go_simp) hb5
  have d2 := G.cell (a := ⟨w2.heap.size, 0, none⟩) (v := .int .i64 e) (by go_simp) hb5
  have d3 := G.cell (a := ⟨w2.heap.size, 1, none⟩) (v := .slice A2 2 c2) (by go_simp) hb5
  have d4 := G.cell (a := ⟨w3.heap.size, 0, none⟩) (v := .int .i64 e3) (by go_simp) hb5
  have d5 := G.cell (a := ⟨w3.heap.size, 1, none⟩) (v := .slice A3 n3 c3) (by go_simp) hb5
  have s1' := Sl.grow (s1.alloc (.cells #[.int .i64 1] 3)) hb5
  have s2' := Sl.grow (s2.alloc (.cells #[.int .i64 1] 3)) hb5
  have s3' := Sl.grow (s3.alloc (.cells #[.int .i64 1] 3)) hb5
  have hbw5 : Below w.heap.size w w5 := by repeat (first | with_reducible assumption | with_reducible exact G.refl _ | with_reducible refine G.drew ?_ | with_reducible refine G.drewN ?_ _ | with_reducible refine G.alloc ?_ _ | with_reducible refine Below.setCell ?_ (by first | (simp; done) | (simp; omega)) _ | with_reducible refine G.trans ?_ hb7 | with_reducible refine G.trans ?_ hb6 | with_reducible refine G.trans ?_ hb5 | with_reducible refine G.trans ?_ hb4 | with_reducible refine G.trans ?_ hb3 | with_reducible refine G.trans ?_ hb2 | with_reducible refine G.trans ?_ hb1 | with_reducible refine G.trans ?_ hb | assumption)
  have lt7 : w2.heap.size < w5.heap.size := cell_lt d2
  have lt8 : w1.heap.size < w5.heap.size := cell_lt d0
  have lt9 : w3.heap.size < w5.heap.size := cell_lt d4
  clear s1 s2 s3
  go_wp2_with fail
  refine (same_any e e A2 (some ⟨w5.heap.size, 0, none⟩) 2 2 c2 2 [0, k] [0, k] _ (by repeat (first | with_reducible assumption | with_reducible exact Sl.new' (by simp; done) (by simp; done) (by simp; done) | with_reducible refine Sl.drew ?_ | with_reducible refine Sl.drewN ?_ _ | with_reducible refine Sl.alloc ?_ _ | with_reducible refine Sl.grow ?_ hb7 | with_reducible refine Sl.grow ?_ hb6 | with_reducible refine Sl.grow ?_ hb5 | with_reducible refine Sl.grow ?_ hb4 | with_reducible refine Sl.grow ?_ hb3 | with_reducible refine Sl.grow ?_ hb2 | with_reducible refine Sl.grow ?_ hb1 | with_reducible refine Sl.grow ?_ hb | assumption)) (by repeat (first | with_reducible assumption | with_reducible exact Sl.new' (by simp; done) (by simp; done) (by simp; done) | with_reducible refine Sl.drew ?_ | with_reducible refine Sl.drewN ?_ _ | with_reducible refine Sl.alloc ?_ _ | with_reducible refine Sl.grow ?_ hb7 | with_reducible refine Sl.grow ?_ hb6 | with_reducible refine Sl.grow ?_ hb5 | with_reducible refine Sl.grow ?_ hb4 | with_reducible refine Sl.grow ?_ hb3 | with_reducible refine Sl.grow ?_ hb2 | with_reducible refine Sl.grow ?_ hb1 | with_reducible refine Sl.grow ?_ hb | assumption)) (by simp [maxLen]) (by simp [maxLen])).mono ?_
  rintro e' w6 ⟨rfl, hb6⟩
  rw [hSk.out]
  have g0 := G.cell (a := ⟨w1.heap.size, 0, none⟩) (v := .int .i64 e) (by go_simp) hb6
  have g1 := G.cell (a := ⟨w1.heap.size, 1, none⟩) (v := .slice A1 1 c1) (by go_simp) hb6
  have g2 := G.cell (a := ⟨w2.heap.size, 0, none⟩) (v := .int .i64 e) (by go_simp) hb6
  have g3 := G.cell (a := ⟨w2.heap.size, 1, none⟩) (v := .slice A2 2 c2) (by go_simp) hb6
  have g4 := G.cell (a := ⟨w3.heap.size, 0, none⟩) (v := .int .i64 e3) (by go_simp) hb6
  have g5 := G.cell (a := ⟨w3.heap.size, 1, none⟩) (v := .slice A3 n3 c3) (by go_simp) hb6
  have r1 := Sl.grow (s1'.alloc (.cells #[.int .i64 0, .int .i64 k] 3)) hb6
  have r2 := Sl.grow (s2'.alloc (.cells #[.int .i64 0, .int .i64 k] 3)) hb6
  have r3 := Sl.grow (s3'.alloc (.cells #[.int .i64 0, .int .i64 k] 3)) hb6
  have hbw6 : Below w.heap.size w w6 := by repeat (first | with_reducible assumption | with_reducible exact G.refl _ | with_reducible refine G.drew ?_ | with_reducible refine G.drewN ?_ _ | with_reducible refine G.alloc ?_ _ | with_reducible refine Below.setCell ?_ (by first | (simp; done) | (simp; omega)) _ | with_reducible refine G.trans ?_ hb7 | with_reducible refine G.trans ?_ hb6 | with_reducible refine G.trans ?_ hb5 | with_reducible refine G.trans ?_ hb4 | with_reducible refine G.trans ?_ hb3 | with_reducible refine G.trans ?_ hb2 | with_reducible refine G.trans ?_ hb1 | with_reducible refine G.trans ?_ hb | assumption)
  go_wp2_with fail
  refine (compare_any e e A2 A1 2 1 c2 c1 [0, k] [1] _ r2 r1 (by simp [maxLen])).mono ?_
  rintro e' w7 ⟨rfl, hb7⟩
  rw [hC1.out]
  have f2 := G.cell g2 hb7
  have f3 := G.cell g3 hb7
  have f4 := G.cell g4 hb7
  have f5 := G.cell g5 hb7
  have hbw7 : Below w.heap.size w w7 := G.trans hbw6 hb7
  rcases hv'.out with rfl | ⟨rfl, rfl, rfl, rfl⟩
  · go_wp2
    go_ret
    exact ⟨rfl, hbw7⟩
  · by_cases hko : k = o
    · have hkb : (k == o) = true := by simp [hko]
      clear hko
      go_wp2
      go_ret
      exact ⟨rfl, hbw7⟩
    · have hkb : (k == o) = false := by simp [hko]
      clear hko
      go_wp2_with fail
      refine (compare_any _ _ A2 A3 2 2 c2 c3 [0, k] [0, o] _ (r2.grow hb7) (r3.grow hb7) (by simp [maxLen])).mono ?_
      rintro e' w8 ⟨rfl, hb8⟩
      have hC2' := hC2.out
      generalize cmpS e3 [0, k] e3 [0, o] = z at *
      have hbb : (decide (z < 0) == decide (k < o)) = true := by rw [hC2']; simp
      clear hC2 hC2'
      go_wp2
      go_ret
      exact ⟨by simp, G.trans hbw7 hb8⟩

theorem stampMakes_any (e k o : Int) (w : World) (_ : (Lit.int .i64 e).wf = true) (_ : (Lit.int .i64 k).wf = true) (_ : (Lit.int .i64 o).wf = true) (ht : Pow10 w) :
    Calls Tryd.prog 5 #[.int .i64 e, .int .i64 k, .int .i64 o] w fun e' w' => e' = .returned (.bool true) ∧ Below w.heap.size w w' := by
  cases h : madeBad e 0
  · cases hk : madeBad e k
    · exact makes_ok e k o w ht h hk
    · exact makes_nodebad e k o w ht h hk
  · exact makes_bad e k o w ht h
end Go.Proofs.YtjldpodehffbnaaDoor
