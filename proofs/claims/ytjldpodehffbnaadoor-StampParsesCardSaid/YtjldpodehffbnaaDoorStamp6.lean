/- What stamp.Clock, stamp.Child and stamp.Parent compute. -/
import Derived.Test.YtjldpodehffbnaaDoorStamp5
namespace Go.Proofs.YtjldpodehffbnaaDoor
set_option linter.unusedVariables false
set_option linter.unnecessarySimpa false
set_option linter.unusedSimpArgs false
open Go.RowKit

set_option maxRecDepth 20000 in set_option maxHeartbeats 400000 in
theorem clock_bad (e k : Int) (w : World) (h : madeBad e k = true) : Calls Tryd.prog 22 #[.int .i64 e, .int .i64 k] w (RetSt 0 [] 2 w) := by
  go_enter Tryd.func22, Tryd.ntmps22
  go_wp2_with fail
  refine (made_bad _ _ _ _ _ _ h).mono ?_
  rintro e' w1 ⟨rfl, hb⟩
  have k0 := G.cell (a := ⟨w.heap.size, 0, none⟩) (v := .int .i64 0) (by go_simp) hb
  have k1 := G.cell (a := ⟨w.heap.size, 1, none⟩) (v := .slice none 0 0) (by go_simp) hb
  obtain ⟨hc, hf⟩ := G.old hb
  go_wp2
  exact bodyPost_ret (v := .tuple #[.agg #[.int .i64 0, .slice none 0 0], .int .i64 2]) (by simp only [results, Tryd.results22]; go_simp) rfl (RetSt.zero (by repeat (first | with_reducible assumption | with_reducible exact G.refl _ | with_reducible refine G.drew ?_ | with_reducible refine G.drewN ?_ _ | with_reducible refine G.alloc ?_ _ | with_reducible refine Below.setCell ?_ (by first | (simp; done) | (simp; omega)) _ | with_reducible refine G.trans ?_ hb12 | with_reducible refine G.trans ?_ hb11 | with_reducible refine G.trans ?_ hb10 | with_reducible refine G.trans ?_ hb9 | with_reducible refine G.trans ?_ hb8 | with_reducible refine G.trans ?_ hb7 | with_reducible refine G.trans ?_ hb6 | with_reducible refine G.trans ?_ hb5 | with_reducible refine G.trans ?_ hb4 | with_reducible refine G.trans ?_ hb3 | with_reducible refine G.trans ?_ hb2 | with_reducible refine G.trans ?_ hb1 | with_reducible refine G.trans ?_ hb | assumption)))
set_option maxRecDepth 20000 in set_option maxHeartbeats 400000 in
theorem clock_ok (e k : Int) (w : World) (h : madeBad e k = false) : Calls Tryd.prog 22 #[.int .i64 e, .int .i64 k] w (RetSt e [0, k] 0 w) := by
  go_enter Tryd.func22, Tryd.ntmps22
  go_wp2_with fail
  refine (made_ok _ _ _ _ _ _ h).mono ?_
  rintro e' w1 ⟨rfl, hb⟩
  have k0 := G.cell (a := ⟨w.heap.size, 0, none⟩) (v := .int .i64 0) (by go_simp) hb
  have k1 := G.cell (a := ⟨w.heap.size, 1, none⟩) (v := .slice none 0 0) (by go_simp) hb
  obtain ⟨hc, hf⟩ := G.old hb
  go_wp2
  refine bodyPost_ret (v := .tuple #[.agg #[.int .i64 e, .slice (some ⟨w.heap.size + 1, 0, none⟩) 2 2], .int .i64 0]) (by simp only [results, Tryd.results22]; go_simp) rfl ⟨_, _, rfl, ?_, by simp, by simp [maxLen], Abv.some_ (by simp), ?_⟩
  · have hA : Abv (w.heap.size + 1) (some ⟨w.heap.size + 1, 0, none⟩) := Abv.some_ (Nat.le_refl _)
    refine Sl.setCell (Sl.setCell (Sl.grow ?_ hb) hA (by simp) _) hA (by simp) _
    repeat (first | with_reducible assumption | with_reducible exact Sl.new' (by simp; done) (by simp; done) (by simp; done) | with_reducible refine Sl.drew ?_ | with_reducible refine Sl.drewN ?_ _ | with_reducible refine Sl.alloc ?_ _ | with_reducible refine Sl.grow ?_ hb12 | with_reducible refine Sl.grow ?_ hb11 | with_reducible refine Sl.grow ?_ hb10 | with_reducible refine Sl.grow ?_ hb9 | with_reducible refine Sl.grow ?_ hb8 | with_reducible refine Sl.grow ?_ hb7 | with_reducible refine Sl.grow ?_ hb6 | with_reducible refine Sl.grow ?_ hb5 | with_reducible refine Sl.grow ?_ hb4 | with_reducible refine Sl.grow ?_ hb3 | with_reducible refine Sl.grow ?_ hb2 | with_reducible refine Sl.grow ?_ hb1 | with_reducible refine Sl.grow ?_ hb | assumption)
  · repeat (first | with_reducible assumption | with_reducible exact G.refl _ | with_reducible refine G.drew ?_ | with_reducible refine G.drewN ?_ _ | with_reducible refine G.alloc ?_ _ | with_reducible refine Below.setCell ?_ (by first | (simp; done) | (simp; omega)) _ | with_reducible refine G.trans ?_ hb12 | with_reducible refine G.trans ?_ hb11 | with_reducible refine G.trans ?_ hb10 | with_reducible refine G.trans ?_ hb9 | with_reducible refine G.trans ?_ hb8 | with_reducible refine G.trans ?_ hb7 | with_reducible refine G.trans ?_ hb6 | with_reducible refine G.trans ?_ hb5 | with_reducible refine G.trans ?_ hb4 | with_reducible refine G.trans ?_ hb3 | with_reducible refine G.trans ?_ hb2 | with_reducible refine G.trans ?_ hb1 | with_reducible refine G.trans ?_ hb | assumption)

theorem checkS_ok {e : Int} {xs : List Int} (h : checkS e xs = 0) : 1 ≤ e ∧ e ≤ 1048576 ∧ xs.length ≠ 0 ∧ xs.length ≤ 512 ∧ xs.any badI = false := by
  unfold checkS at h
  split at h
  · cases h
  split at h
  · cases h
  split at h
  · cases h
  split at h
  · cases h
  rename_i h1 h2 h3 h4
  exact ⟨by omega, by omega, h2, by omega, by simpa using h4⟩

/-- The first error of a child. -/
def childErr (e : Int) (xs : List Int) (k : Int) : Int := if checkS e xs ≠ 0 then checkS e xs else if xs.length = 512 then 9 else if k < 0 ∨ 65535 < k then 2 else 0

set_option maxRecDepth 20000 in set_option maxHeartbeats 400000 in
theorem child_bad (e k : Int) (A : Option Addr) (n c : Nat) (xs : List Int) (w : World) (hx : Sl w A n (i64s xs)) (hn : n ≤ maxLen) (h : childErr e xs k ≠ 0) :
    Calls Tryd.prog 28 #[.agg #[.int .i64 e, .slice A n c], .int .i64 k] w (RetSt 0 [] (childErr e xs k) w) := by
  have hl := Lib.hid hx.len
  by_cases h1 : checkS e xs = 0
  · have hs : Hid (childErr e xs k = if xs.length = 512 then 9 else if k < 0 ∨ 65535 < k then 2 else 0) := by unfold Hid childErr; rw [if_neg (by simp [h1])]
    have C1 := fun w hx => check_any e A n c xs w hx hn
    rw [h1] at C1
    have C1' := Lib.hid C1
    clear C1
    by_cases h2 : n = 512
    · have hs2 : childErr e xs k = 9 := by rw [hs.out, hl.out, if_pos h2]
      rw [hs2]
      subst h2
      clear h h1 hs2
      go_enter Tryd.func28, Tryd.ntmps28
      go_wp2_with fail
      refine (C1'.out _ ?_).mono ?_
      · repeat (first | with_reducible assumption | with_reducible exact Sl.new' (by simp; done) (by simp; done) (by simp; done) | with_reducible refine Sl.drew ?_ | with_reducible refine Sl.drewN ?_ _ | with_reducible refine Sl.alloc ?_ _ | with_reducible refine Sl.grow ?_ hb12 | with_reducible refine Sl.grow ?_ hb11 | with_reducible refine Sl.grow ?_ hb10 | with_reducible refine Sl.grow ?_ hb9 | with_reducible refine Sl.grow ?_ hb8 | with_reducible refine Sl.grow ?_ hb7 | with_reducible refine Sl.grow ?_ hb6 | with_reducible refine Sl.grow ?_ hb5 | with_reducible refine Sl.grow ?_ hb4 | with_reducible refine Sl.grow ?_ hb3 | with_reducible refine Sl.grow ?_ hb2 | with_reducible refine Sl.grow ?_ hb1 | with_reducible refine Sl.grow ?_ hb | assumption)
      rintro e' w1 ⟨rfl, hb⟩
      have k0 := G.cell (a := ⟨w.heap.size + 1, 0, none⟩) (v := .int .i64 0) (by go_simp) hb
      have k1 := G.cell (a := ⟨w.heap.size + 1, 1, none⟩) (v := .slice none 0 0) (by go_simp) hb
      obtain ⟨hc, hf⟩ := G.old hb
      go_wp2
      exact bodyPost_ret (v := .tuple #[.agg #[.int .i64 0, .slice none 0 0], .int .i64 9]) (by simp only [results, Tryd.results28]; go_simp) rfl (RetSt.zero (by repeat (first | with_reducible assumption | with_reducible exact G.refl _ | with_reducible refine G.drew ?_ | with_reducible refine G.drewN ?_ _ | with_reducible refine G.alloc ?_ _ | with_reducible refine Below.setCell ?_ (by first | (simp; done) | (simp; omega)) _ | with_reducible refine G.trans ?_ hb12 | with_reducible refine G.trans ?_ hb11 | with_reducible refine G.trans ?_ hb10 | with_reducible refine G.trans ?_ hb9 | with_reducible refine G.trans ?_ hb8 | with_reducible refine G.trans ?_ hb7 | with_reducible refine G.trans ?_ hb6 | with_reducible refine G.trans ?_ hb5 | with_reducible refine G.trans ?_ hb4 | with_reducible refine G.trans ?_ hb3 | with_reducible refine G.trans ?_ hb2 | with_reducible refine G.trans ?_ hb1 | with_reducible refine G.trans ?_ hb | assumption)))
    · have hs2 : childErr e xs k = 2 := by
        rw [hs.out, hl.out, if_neg h2] at h ⊢
        by_cases h3 : k < 0 ∨ 65535 < k
        · rw [if_pos h3]
        · rw [if_neg h3] at h; exact absurd rfl h
      have h3 : k < 0 ∨ 65535 < k := by
        rw [hs.out, hl.out, if_neg h2] at h
        by_cases h3 : k < 0 ∨ 65535 < k
        · exact h3
        · rw [if_neg h3] at h; exact absurd rfl h
      rw [hs2]
      have h2' : ((n : Int) == 512) = false := by simp; omega
      clear h h1 hs2 h2
      go_enter Tryd.func28, Tryd.ntmps28
      go_wp2_with fail
      refine (C1'.out _ ?_).mono ?_
      · repeat (first | with_reducible assumption | with_reducible exact Sl.new' (by simp; done) (by simp; done) (by simp; done) | with_reducible refine Sl.drew ?_ | with_reducible refine Sl.drewN ?_ _ | with_reducible refine Sl.alloc ?_ _ | with_reducible refine Sl.grow ?_ hb12 | with_reducible refine Sl.grow ?_ hb11 | with_reducible refine Sl.grow ?_ hb10 | with_reducible refine Sl.grow ?_ hb9 | with_reducible refine Sl.grow ?_ hb8 | with_reducible refine Sl.grow ?_ hb7 | with_reducible refine Sl.grow ?_ hb6 | with_reducible refine Sl.grow ?_ hb5 | with_reducible refine Sl.grow ?_ hb4 | with_reducible refine Sl.grow ?_ hb3 | with_reducible refine Sl.grow ?_ hb2 | with_reducible refine Sl.grow ?_ hb1 | with_reducible refine Sl.grow ?_ hb | assumption)
      rintro e' w1 ⟨rfl, hb⟩
      have k0 := G.cell (a := ⟨w.heap.size + 1, 0, none⟩) (v := .int .i64 0) (by go_simp) hb
      have k1 := G.cell (a := ⟨w.heap.size + 1, 1, none⟩) (v := .slice none 0 0) (by go_simp) hb
      obtain ⟨hc, hf⟩ := G.old hb
      rcases h3 with h3 | h3
      · go_wp2
        exact bodyPost_ret (v := .tuple #[.agg #[.int .i64 0, .slice none 0 0], .int .i64 2]) (by simp only [results, Tryd.results28]; go_simp) rfl (RetSt.zero (by repeat (first | with_reducible assumption | with_reducible exact G.refl _ | with_reducible refine G.drew ?_ | with_reducible refine G.drewN ?_ _ | with_reducible refine G.alloc ?_ _ | with_reducible refine Below.setCell ?_ (by first | (simp; done) | (simp; omega)) _ | with_reducible refine G.trans ?_ hb12 | with_reducible refine G.trans ?_ hb11 | with_reducible refine G.trans ?_ hb10 | with_reducible refine G.trans ?_ hb9 | with_reducible refine G.trans ?_ hb8 | with_reducible refine G.trans ?_ hb7 | with_reducible refine G.trans ?_ hb6 | with_reducible refine G.trans ?_ hb5 | with_reducible refine G.trans ?_ hb4 | with_reducible refine G.trans ?_ hb3 | with_reducible refine G.trans ?_ hb2 | with_reducible refine G.trans ?_ hb1 | with_reducible refine G.trans ?_ hb | assumption)))
      · by_cases h4 : k < 0
        · omega
        go_wp2
        exact bodyPost_ret (v := .tuple #[.agg #[.int .i64 0, .slice none 0 0], .int .i64 2]) (by simp only [results, Tryd.results28]; go_simp) rfl (RetSt.zero (by repeat (first | with_reducible assumption | with_reducible exact G.refl _ | with_reducible refine G.drew ?_ | with_reducible refine G.drewN ?_ _ | with_reducible refine G.alloc ?_ _ | with_reducible refine Below.setCell ?_ (by first | (simp; done) | (simp; omega)) _ | with_reducible refine G.trans ?_ hb12 | with_reducible refine G.trans ?_ hb11 | with_reducible refine G.trans ?_ hb10 | with_reducible refine G.trans ?_ hb9 | with_reducible refine G.trans ?_ hb8 | with_reducible refine G.trans ?_ hb7 | with_reducible refine G.trans ?_ hb6 | with_reducible refine G.trans ?_ hb5 | with_reducible refine G.trans ?_ hb4 | with_reducible refine G.trans ?_ hb3 | with_reducible refine G.trans ?_ hb2 | with_reducible refine G.trans ?_ hb1 | with_reducible refine G.trans ?_ hb | assumption)))
  · have hs : childErr e xs k = checkS e xs := by unfold childErr; rw [if_pos h1]
    rw [hs]
    have C1 := fun w hx => check_any e A n c xs w hx hn
    have C1' := Lib.hid C1
    have hz : (checkS e xs != 0) = true := by simp [h1]
    clear C1 h hs h1
    generalize checkS e xs = z at *
    go_enter Tryd.func28, Tryd.ntmps28
    go_wp2_with fail
    refine (C1'.out _ ?_).mono ?_
    · repeat (first | with_reducible assumption | with_reducible exact Sl.new' (by simp; done) (by simp; done) (by simp; done) | with_reducible refine Sl.drew ?_ | with_reducible refine Sl.drewN ?_ _ | with_reducible refine Sl.alloc ?_ _ | with_reducible refine Sl.grow ?_ hb12 | with_reducible refine Sl.grow ?_ hb11 | with_reducible refine Sl.grow ?_ hb10 | with_reducible refine Sl.grow ?_ hb9 | with_reducible refine Sl.grow ?_ hb8 | with_reducible refine Sl.grow ?_ hb7 | with_reducible refine Sl.grow ?_ hb6 | with_reducible refine Sl.grow ?_ hb5 | with_reducible refine Sl.grow ?_ hb4 | with_reducible refine Sl.grow ?_ hb3 | with_reducible refine Sl.grow ?_ hb2 | with_reducible refine Sl.grow ?_ hb1 | with_reducible refine Sl.grow ?_ hb | assumption)
    rintro e' w1 ⟨rfl, hb⟩
    have k0 := G.cell (a := ⟨w.heap.size + 1, 0, none⟩) (v := .int .i64 0) (by go_simp) hb
    have k1 := G.cell (a := ⟨w.heap.size + 1, 1, none⟩) (v := .slice none 0 0) (by go_simp) hb
    obtain ⟨hc, hf⟩ := G.old hb
    go_wp2
    exact bodyPost_ret (v := .tuple #[.agg #[.int .i64 0, .slice none 0 0], .int .i64 z]) (by simp only [results, Tryd.results28]; go_simp) rfl (RetSt.zero (by repeat (first | with_reducible assumption | with_reducible exact G.refl _ | with_reducible refine G.drew ?_ | with_reducible refine G.drewN ?_ _ | with_reducible refine G.alloc ?_ _ | with_reducible refine Below.setCell ?_ (by first | (simp; done) | (simp; omega)) _ | with_reducible refine G.trans ?_ hb12 | with_reducible refine G.trans ?_ hb11 | with_reducible refine G.trans ?_ hb10 | with_reducible refine G.trans ?_ hb9 | with_reducible refine G.trans ?_ hb8 | with_reducible refine G.trans ?_ hb7 | with_reducible refine G.trans ?_ hb6 | with_reducible refine G.trans ?_ hb5 | with_reducible refine G.trans ?_ hb4 | with_reducible refine G.trans ?_ hb3 | with_reducible refine G.trans ?_ hb2 | with_reducible refine G.trans ?_ hb1 | with_reducible refine G.trans ?_ hb | assumption)))

set_option maxRecDepth 20000 in set_option maxHeartbeats 400000 in
theorem child_ok (e k : Int) (A : Option Addr) (n c : Nat) (xs : List Int) (w : World) (hx : Sl w A n (i64s xs)) (hnc : n ≤ c) (hcm : c ≤ maxLen) (h : childErr e xs k = 0) :
    Calls Tryd.prog 28 #[.agg #[.int .i64 e, .slice A n c], .int .i64 k] w (RetSt e (xs ++ [k]) 0 w) := by
  have hl := Lib.hid hx.len
  have h1 : checkS e xs = 0 := by
    unfold childErr at h
    by_cases h1 : checkS e xs = 0
    · exact h1
    · rw [if_pos h1] at h; exact h
  unfold childErr at h
  rw [if_neg (by simp [h1]), hl.out] at h
  have h2 : n ≠ 512 := by rintro rfl; simp at h
  rw [if_neg h2] at h
  have h3 : ¬ (k < 0 ∨ 65535 < k) := by intro h3; rw [if_pos h3] at h; cases h
  have h3a : ¬ k < 0 := fun x => h3 (.inl x)
  have h3b : ¬ 65535 < k := fun x => h3 (.inr x)
  have h2' : ((n : Int) == 512) = false := by simp; omega
  have C1 := fun w hx => check_any e A n c xs w hx (Nat.le_trans hnc hcm)
  rw [h1] at C1
  have C1' := Lib.hid C1
  have hn5 : n ≤ 512 := by have := (checkS_ok h1).2.2.2.1; rw [hl.out] at this; exact this
  obtain ⟨i0, hi0, hz0, hz1, hz2⟩ := info_parts Tryd.infoI
  clear h h1 h2 h3 C1
  obtain rfl := hl.out
  go_enter Tryd.func28, Tryd.ntmps28
  go_wp2_with fail
  refine (C1'.out _ ?_).mono ?_
  · repeat (first | with_reducible assumption | with_reducible exact Sl.new' (by simp; done) (by simp; done) (by simp; done) | with_reducible refine Sl.drew ?_ | with_reducible refine Sl.drewN ?_ _ | with_reducible refine Sl.alloc ?_ _ | with_reducible refine Sl.grow ?_ hb12 | with_reducible refine Sl.grow ?_ hb11 | with_reducible refine Sl.grow ?_ hb10 | with_reducible refine Sl.grow ?_ hb9 | with_reducible refine Sl.grow ?_ hb8 | with_reducible refine Sl.grow ?_ hb7 | with_reducible refine Sl.grow ?_ hb6 | with_reducible refine Sl.grow ?_ hb5 | with_reducible refine Sl.grow ?_ hb4 | with_reducible refine Sl.grow ?_ hb3 | with_reducible refine Sl.grow ?_ hb2 | with_reducible refine Sl.grow ?_ hb1 | with_reducible refine Sl.grow ?_ hb | assumption)
  rintro e' w1 ⟨rfl, hb⟩
  have k0 := G.cell (a := ⟨w.heap.size + 1, 0, none⟩) (v := .int .i64 0) (by go_simp) hb
  have k1 := G.cell (a := ⟨w.heap.size + 1, 1, none⟩) (v := .slice none 0 0) (by go_simp) hb
  have k2 := G.cell (a := ⟨w.heap.size, 0, none⟩) (v := .int .i64 e) (by go_simp) hb
  have k3 := G.cell (a := ⟨w.heap.size, 1, none⟩) (v := .slice A xs.length c) (by go_simp) hb
  have hz : w.heap.size + 2 ≤ w1.heap.size := by have := hb.size; simp at this; omega
  obtain ⟨hc, hf⟩ := G.old hb
  have z0 : w1.frozen? ⟨w.heap.size + 1, 0, none⟩ = false := (hf _ _ (by simp)).trans (by go_simp)
  have z1 : w1.frozen? ⟨w.heap.size + 1, 1, none⟩ = false := (hf _ _ (by simp)).trans (by go_simp)
  have lt0 : w.heap.size < w1.heap.size := by omega
  have lt1 : w.heap.size + 1 < w1.heap.size := by omega
  have hx1 : Sl w1 A xs.length (i64s xs) := by repeat (first | with_reducible assumption | with_reducible exact Sl.new' (by simp; done) (by simp; done) (by simp; done) | with_reducible refine Sl.drew ?_ | with_reducible refine Sl.drewN ?_ _ | with_reducible refine Sl.alloc ?_ _ | with_reducible refine Sl.grow ?_ hb12 | with_reducible refine Sl.grow ?_ hb11 | with_reducible refine Sl.grow ?_ hb10 | with_reducible refine Sl.grow ?_ hb9 | with_reducible refine Sl.grow ?_ hb8 | with_reducible refine Sl.grow ?_ hb7 | with_reducible refine Sl.grow ?_ hb6 | with_reducible refine Sl.grow ?_ hb5 | with_reducible refine Sl.grow ?_ hb4 | with_reducible refine Sl.grow ?_ hb3 | with_reducible refine Sl.grow ?_ hb2 | with_reducible refine Sl.grow ?_ hb1 | with_reducible refine Sl.grow ?_ hb | assumption)
  have hb0 : Below w.heap.size w w1 := G.trans (by repeat (first | with_reducible assumption | with_reducible exact G.refl _ | with_reducible refine G.drew ?_ | with_reducible refine G.drewN ?_ _ | with_reducible refine G.alloc ?_ _ | with_reducible refine Below.setCell ?_ (by first | (simp; done) | (simp; omega)) _ | with_reducible refine G.trans ?_ hb12 | with_reducible refine G.trans ?_ hb11 | with_reducible refine G.trans ?_ hb10 | with_reducible refine G.trans ?_ hb9 | with_reducible refine G.trans ?_ hb8 | with_reducible refine G.trans ?_ hb7 | with_reducible refine G.trans ?_ hb6 | with_reducible refine G.trans ?_ hb5 | with_reducible refine G.trans ?_ hb4 | with_reducible refine G.trans ?_ hb3 | with_reducible refine G.trans ?_ hb2 | with_reducible refine G.trans ?_ hb1 | with_reducible refine G.trans ?_ hb | assumption)) hb
  clear hc hf hx
  clear hb
  go_wp2_with fail
  go_region_held3 (fun w' => w'.cell? ⟨w.heap.size, 0, none⟩ = some (.int .i64 e) ∧ w'.cell? ⟨w.heap.size, 1, none⟩ = some (.slice A xs.length c)) (go_keep)
    (first | (go_at_call 44; refine (clone_any A xs.length c xs _ (by repeat (first | with_reducible assumption | with_reducible exact Sl.new' (by simp; done) (by simp; done) (by simp; done) | with_reducible refine Sl.drew ?_ | with_reducible refine Sl.drewN ?_ _ | with_reducible refine Sl.alloc ?_ _ | with_reducible refine Sl.grow ?_ hb12 | with_reducible refine Sl.grow ?_ hb11 | with_reducible refine Sl.grow ?_ hb10 | with_reducible refine Sl.grow ?_ hb9 | with_reducible refine Sl.grow ?_ hb8 | with_reducible refine Sl.grow ?_ hb7 | with_reducible refine Sl.grow ?_ hb6 | with_reducible refine Sl.grow ?_ hb5 | with_reducible refine Sl.grow ?_ hb4 | with_reducible refine Sl.grow ?_ hb3 | with_reducible refine Sl.grow ?_ hb2 | with_reducible refine Sl.grow ?_ hb1 | with_reducible refine Sl.grow ?_ hb | assumption)) hnc hcm (by show xs.length * 8 ≤ _; omega)).mono ?_; rintro e2 w2 ⟨A2, c2, rfl, hown2', hb2⟩; have hown2 := own_mono (base' := w1.heap.size) hown2' (by simp); have hB : Below w1.heap.size w1 w2 := G.trans (by repeat (first | with_reducible assumption | with_reducible exact G.refl _ | with_reducible refine G.drew ?_ | with_reducible refine G.drewN ?_ _ | with_reducible refine G.alloc ?_ _ | with_reducible refine Below.setCell ?_ (by first | (simp; done) | (simp; omega)) _ | with_reducible refine G.trans ?_ hb12 | with_reducible refine G.trans ?_ hb11 | with_reducible refine G.trans ?_ hb10 | with_reducible refine G.trans ?_ hb9 | with_reducible refine G.trans ?_ hb8 | with_reducible refine G.trans ?_ hb7 | with_reducible refine G.trans ?_ hb6 | with_reducible refine G.trans ?_ hb5 | with_reducible refine G.trans ?_ hb4 | with_reducible refine G.trans ?_ hb3 | with_reducible refine G.trans ?_ hb2 | with_reducible refine G.trans ?_ hb1 | with_reducible refine G.trans ?_ hb | assumption)) hb2; obtain ⟨hc2, hf2⟩ := G.old hB) | (refine step_app _ rfl (.tmp 31) (.tmp 33) _ rfl w1.heap.size 3 i0 _ 1 8 Tryd.underlying22 hi0 hz0 hz1 hz2 rfl Nat.zero_lt_one (.slice A2 xs.length c2) xs.length (i64s xs) rfl (by repeat (first | with_reducible assumption | with_reducible refine World.ownsRow.drew ?_ | with_reducible refine World.ownsRow.alloc ?_ _ | with_reducible refine own_grow ?_ hb12 | with_reducible refine own_grow ?_ hb11 | with_reducible refine own_grow ?_ hb10 | with_reducible refine own_grow ?_ hb9 | with_reducible refine own_grow ?_ hb8 | with_reducible refine own_grow ?_ hb7 | with_reducible refine own_grow ?_ hb6 | with_reducible refine own_grow ?_ hb5 | with_reducible refine own_grow ?_ hb4 | with_reducible refine own_grow ?_ hb3 | with_reducible refine own_grow ?_ hb2 | with_reducible refine own_grow ?_ hb1 | with_reducible refine own_grow ?_ hb | assumption)) _ 1 1 (i64s [k]) rfl (by repeat (first | with_reducible assumption | with_reducible exact Sl.new' (by simp; done) (by simp; done) (by simp; done) | with_reducible refine Sl.drew ?_ | with_reducible refine Sl.drewN ?_ _ | with_reducible refine Sl.alloc ?_ _ | with_reducible refine Sl.grow ?_ hb12 | with_reducible refine Sl.grow ?_ hb11 | with_reducible refine Sl.grow ?_ hb10 | with_reducible refine Sl.grow ?_ hb9 | with_reducible refine Sl.grow ?_ hb8 | with_reducible refine Sl.grow ?_ hb7 | with_reducible refine Sl.grow ?_ hb6 | with_reducible refine Sl.grow ?_ hb5 | with_reducible refine Sl.grow ?_ hb4 | with_reducible refine Sl.grow ?_ hb3 | with_reducible refine Sl.grow ?_ hb2 | with_reducible refine Sl.grow ?_ hb1 | with_reducible refine Sl.grow ?_ hb | assumption)) (oneCell_i64s _) (by show _ ≤ 2 ^ 63 - 1; omega) (by omega) (by have h8 := hB.size; (try simp); (try omega)) ?_; intro A3 c3 w3 hown3 hc3 hm3 hg3; have hb3 : Below w1.heap.size w1 w3 := Below.grown (by repeat (first | with_reducible assumption | with_reducible exact G.refl _ | with_reducible refine G.drew ?_ | with_reducible refine G.drewN ?_ _ | with_reducible refine G.alloc ?_ _ | with_reducible refine Below.setCell ?_ (by first | (simp; done) | (simp; omega)) _ | with_reducible refine G.trans ?_ hb12 | with_reducible refine G.trans ?_ hb11 | with_reducible refine G.trans ?_ hb10 | with_reducible refine G.trans ?_ hb9 | with_reducible refine G.trans ?_ hb8 | with_reducible refine G.trans ?_ hb7 | with_reducible refine G.trans ?_ hb6 | with_reducible refine G.trans ?_ hb5 | with_reducible refine G.trans ?_ hb4 | with_reducible refine G.trans ?_ hb3 | with_reducible refine G.trans ?_ hb2 | with_reducible refine G.trans ?_ hb1 | with_reducible refine G.trans ?_ hb | assumption)) hg3 (by have h8 := hB.size; (try simp); (try omega)) (fun k hk => (hown2.lt k hk).1); obtain ⟨hc3', hf3'⟩ := G.old hb3; have hs3 := Sl.of_own1 hown3; have ha3 := Abv.of_own hown3; have zz0 := (hf3' (w.heap.size+1) 0 lt1).trans z0; have zz1 := (hf3' (w.heap.size+1) 1 lt1).trans z1) | fail)
  all_goals
    go_wp2
    refine bodyPost_ret (v := .tuple #[.agg #[.int .i64 e, .slice A3 (xs.length + 1) c3], .int .i64 0]) (by simp only [results, Tryd.results28]; go_simp) rfl ⟨A3, c3, by simp, ?_, ?_, hm3, ?_, ?_⟩
    · rw [show (xs ++ [k]).length = xs.length + 1 by simp, show i64s (xs ++ [k]) = i64s xs ++ i64s [k] by simp]
      exact Sl.setCell (Sl.setCell hs3 ha3 (by simp; omega) _) ha3 (by simp; omega) _
    · simpa using hc3
    · exact ha3.mono (by omega)
    · exact ((hb0.trans (hb3.mono (by omega))).setCell (by simp) _).setCell (by simp) _
end Go.Proofs.YtjldpodehffbnaaDoor
