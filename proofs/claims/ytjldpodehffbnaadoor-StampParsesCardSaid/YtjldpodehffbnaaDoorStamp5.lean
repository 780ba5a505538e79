/- What stamp.Descends, stamp.Child, stamp.Parent, stamp.Arrival and stamp.Clock compute. -/
import Derived.Test.YtjldpodehffbnaaDoorStamp4
namespace Go.Proofs.YtjldpodehffbnaaDoor
set_option linter.unusedVariables false
set_option linter.unnecessarySimpa false
set_option linter.unusedSimpArgs false
open Go.RowKit

set_option maxRecDepth 20000 in set_option maxHeartbeats 400000 in
theorem descends_any (e f : Int) (A B : Option Addr) (n m c d : Nat) (xs ys : List Int) (w : World) (hx : Sl w A n (i64s xs)) (hy : Sl w B m (i64s ys)) (hm : m ≤ maxLen) (hnc : n ≤ c) :
    Calls Tryd.prog 18 #[.agg #[.int .i64 e, .slice A n c], .agg #[.int .i64 f, .slice B m d]] w fun e' w' => e' = .returned (.bool (descS e xs f ys)) ∧ Below w.heap.size w w' := by
  have hlx := Lib.hid hx.len
  have hly := Lib.hid hy.len
  by_cases hef : e = f
  · subst hef
    by_cases hnm : m < n
    · have hmc : m ≤ c := by omega
      have hs : Hid (decide (xs.take m = ys) = descS e xs e ys) := by
        unfold Hid descS
        rw [hly.out, hlx.out]
        simp [hnm]
      have hxt : Sl w A m (i64s (xs.take m)) := by rw [← i64s_take]; exact hx.take (by omega)
      have hlt : (m : Int) < (n : Int) := by omega
      go_enter Tryd.func18, Tryd.ntmps18
      go_wp2
      go_quiet ((go_at_call 37; exact Calls.quiet_of (slEqual_any _ _ _ _ _ _ (xs.take m) ys _ (by repeat (first | with_reducible assumption | with_reducible exact Sl.new' (by simp; done) (by simp; done) (by simp; done) | with_reducible refine Sl.drew ?_ | with_reducible refine Sl.drewN ?_ _ | with_reducible refine Sl.alloc ?_ _ | with_reducible refine Sl.grow ?_ hb12 | with_reducible refine Sl.grow ?_ hb11 | with_reducible refine Sl.grow ?_ hb10 | with_reducible refine Sl.grow ?_ hb9 | with_reducible refine Sl.grow ?_ hb8 | with_reducible refine Sl.grow ?_ hb7 | with_reducible refine Sl.grow ?_ hb6 | with_reducible refine Sl.grow ?_ hb5 | with_reducible refine Sl.grow ?_ hb4 | with_reducible refine Sl.grow ?_ hb3 | with_reducible refine Sl.grow ?_ hb2 | with_reducible refine Sl.grow ?_ hb1 | with_reducible refine Sl.grow ?_ hb | assumption)) (by repeat (first | with_reducible assumption | with_reducible exact Sl.new' (by simp; done) (by simp; done) (by simp; done) | with_reducible refine Sl.drew ?_ | with_reducible refine Sl.drewN ?_ _ | with_reducible refine Sl.alloc ?_ _ | with_reducible refine Sl.grow ?_ hb12 | with_reducible refine Sl.grow ?_ hb11 | with_reducible refine Sl.grow ?_ hb10 | with_reducible refine Sl.grow ?_ hb9 | with_reducible refine Sl.grow ?_ hb8 | with_reducible refine Sl.grow ?_ hb7 | with_reducible refine Sl.grow ?_ hb6 | with_reducible refine Sl.grow ?_ hb5 | with_reducible refine Sl.grow ?_ hb4 | with_reducible refine Sl.grow ?_ hb3 | with_reducible refine Sl.grow ?_ hb2 | with_reducible refine Sl.grow ?_ hb1 | with_reducible refine Sl.grow ?_ hb | assumption)) hm)))
      go_wp2
      go_ret
      exact ⟨ret_b (by rw [← hs.out]), by repeat (first | with_reducible assumption | with_reducible exact G.refl _ | with_reducible refine G.drew ?_ | with_reducible refine G.drewN ?_ _ | with_reducible refine G.alloc ?_ _ | with_reducible refine Below.setCell ?_ (by first | (simp; done) | (simp; omega)) _ | with_reducible refine G.trans ?_ hb12 | with_reducible refine G.trans ?_ hb11 | with_reducible refine G.trans ?_ hb10 | with_reducible refine G.trans ?_ hb9 | with_reducible refine G.trans ?_ hb8 | with_reducible refine G.trans ?_ hb7 | with_reducible refine G.trans ?_ hb6 | with_reducible refine G.trans ?_ hb5 | with_reducible refine G.trans ?_ hb4 | with_reducible refine G.trans ?_ hb3 | with_reducible refine G.trans ?_ hb2 | with_reducible refine G.trans ?_ hb1 | with_reducible refine G.trans ?_ hb | assumption)⟩
    · have hs : Hid (descS e xs e ys = false) := by
        unfold Hid descS
        rw [hly.out, hlx.out]
        simp [hnm]
      have hlt : decide ((m : Int) < (n : Int)) = false := by simp; omega
      go_enter Tryd.func18, Tryd.ntmps18
      go_wp2
      go_quiet (fail)
      go_wp2
      go_ret
      exact ⟨ret_b hs.out.symm, by repeat (first | with_reducible assumption | with_reducible exact G.refl _ | with_reducible refine G.drew ?_ | with_reducible refine G.drewN ?_ _ | with_reducible refine G.alloc ?_ _ | with_reducible refine Below.setCell ?_ (by first | (simp; done) | (simp; omega)) _ | with_reducible refine G.trans ?_ hb12 | with_reducible refine G.trans ?_ hb11 | with_reducible refine G.trans ?_ hb10 | with_reducible refine G.trans ?_ hb9 | with_reducible refine G.trans ?_ hb8 | with_reducible refine G.trans ?_ hb7 | with_reducible refine G.trans ?_ hb6 | with_reducible refine G.trans ?_ hb5 | with_reducible refine G.trans ?_ hb4 | with_reducible refine G.trans ?_ hb3 | with_reducible refine G.trans ?_ hb2 | with_reducible refine G.trans ?_ hb1 | with_reducible refine G.trans ?_ hb | assumption)⟩
  · have hs : Hid (descS e xs f ys = false) := by unfold Hid descS; simp [hef]
    have hne : (e == f) = false := by simp [hef]
    clear hef
    go_enter Tryd.func18, Tryd.ntmps18
    go_wp2
    go_quiet (fail)
    go_wp2
    go_ret
    exact ⟨ret_b hs.out.symm, by repeat (first | with_reducible assumption | with_reducible exact G.refl _ | with_reducible refine G.drew ?_ | with_reducible refine G.drewN ?_ _ | with_reducible refine G.alloc ?_ _ | with_reducible refine Below.setCell ?_ (by first | (simp; done) | (simp; omega)) _ | with_reducible refine G.trans ?_ hb12 | with_reducible refine G.trans ?_ hb11 | with_reducible refine G.trans ?_ hb10 | with_reducible refine G.trans ?_ hb9 | with_reducible refine G.trans ?_ hb8 | with_reducible refine G.trans ?_ hb7 | with_reducible refine G.trans ?_ hb6 | with_reducible refine G.trans ?_ hb5 | with_reducible refine G.trans ?_ hb4 | with_reducible refine G.trans ?_ hb3 | with_reducible refine G.trans ?_ hb2 | with_reducible refine G.trans ?_ hb1 | with_reducible refine G.trans ?_ hb | assumption)⟩

/-- The call gives a stamp (its path in memory of its own) and an error; nothing that was there has changed. -/
def RetSt (e : Int) (xs : List Int) (err : Int) (w : World) (end_ : Ending) (w' : World) : Prop :=
  ∃ A c, end_ = .returned (.tuple #[.agg #[.int .i64 e, .slice A xs.length c], .int .i64 err]) ∧ Sl w' A xs.length (i64s xs) ∧ xs.length ≤ c ∧ c ≤ maxLen ∧ Abv w.heap.size A ∧ Below w.heap.size w w'
/-- Is the node, or the entry, out of range? -/
def madeBad (e k : Int) : Bool := decide (e < 1) || decide (1048576 < e) || decide (k < 0) || decide (128 ≤ k)
theorem RetSt.zero {err : Int} {w w' : World} (h : Below w.heap.size w w') : RetSt 0 [] err w (.returned (.tuple #[.agg #[.int .i64 0, .slice none 0 0], .int .i64 err])) w' :=
  ⟨none, 0, rfl, Sl.nil _ _, Nat.le_refl _, Nat.zero_le _, Abv.none_ _, h⟩
set_option maxRecDepth 20000 in set_option maxHeartbeats 400000 in
theorem made_bad (e k : Int) (A : Option Addr) (n c : Nat) (w : World) (h : madeBad e k = true) :
    Calls Tryd.prog 39 #[.int .i64 e, .int .i64 k, .slice A n c] w fun e' w' => e' = .returned (.tuple #[.agg #[.int .i64 0, .slice none 0 0], .int .i64 2]) ∧ Below w.heap.size w w' := by
  unfold madeBad at h
  simp only [Bool.or_eq_true, decide_eq_true_eq] at h
  go_enter Tryd.func39, Tryd.ntmps39
  go_wp2
  all_goals exact bodyPost_ret (v := .tuple #[.agg #[.int .i64 0, .slice none 0 0], .int .i64 2]) (by simp only [results, Tryd.results39]; go_simp) rfl ⟨rfl, by repeat (first | with_reducible assumption | with_reducible exact G.refl _ | with_reducible refine G.drew ?_ | with_reducible refine G.drewN ?_ _ | with_reducible refine G.alloc ?_ _ | with_reducible refine Below.setCell ?_ (by first | (simp; done) | (simp; omega)) _ | with_reducible refine G.trans ?_ hb12 | with_reducible refine G.trans ?_ hb11 | with_reducible refine G.trans ?_ hb10 | with_reducible refine G.trans ?_ hb9 | with_reducible refine G.trans ?_ hb8 | with_reducible refine G.trans ?_ hb7 | with_reducible refine G.trans ?_ hb6 | with_reducible refine G.trans ?_ hb5 | with_reducible refine G.trans ?_ hb4 | with_reducible refine G.trans ?_ hb3 | with_reducible refine G.trans ?_ hb2 | with_reducible refine G.trans ?_ hb1 | with_reducible refine G.trans ?_ hb | assumption)⟩
set_option maxRecDepth 20000 in set_option maxHeartbeats 400000 in
theorem made_ok (e k : Int) (A : Option Addr) (n c : Nat) (w : World) (h : madeBad e k = false) :
    Calls Tryd.prog 39 #[.int .i64 e, .int .i64 k, .slice A n c] w fun e' w' => e' = .returned (.tuple #[.agg #[.int .i64 e, .slice A n c], .int .i64 0]) ∧ Below w.heap.size w w' := by
  unfold madeBad at h
  simp only [Bool.or_eq_false_iff, decide_eq_false_iff_not] at h
  obtain ⟨⟨⟨h1, h2⟩, h3⟩, h4⟩ := h
  go_enter Tryd.func39, Tryd.ntmps39
  go_wp2
  exact bodyPost_ret (v := .tuple #[.agg #[.int .i64 e, .slice A n c], .int .i64 0]) (by simp only [results, Tryd.results39]; go_simp) rfl ⟨rfl, by repeat (first | with_reducible assumption | with_reducible exact G.refl _ | with_reducible refine G.drew ?_ | with_reducible refine G.drewN ?_ _ | with_reducible refine G.alloc ?_ _ | with_reducible refine Below.setCell ?_ (by first | (simp; done) | (simp; omega)) _ | with_reducible refine G.trans ?_ hb12 | with_reducible refine G.trans ?_ hb11 | with_reducible refine G.trans ?_ hb10 | with_reducible refine G.trans ?_ hb9 | with_reducible refine G.trans ?_ hb8 | with_reducible refine G.trans ?_ hb7 | with_reducible refine G.trans ?_ hb6 | with_reducible refine G.trans ?_ hb5 | with_reducible refine G.trans ?_ hb4 | with_reducible refine G.trans ?_ hb3 | with_reducible refine G.trans ?_ hb2 | with_reducible refine G.trans ?_ hb1 | with_reducible refine G.trans ?_ hb | assumption)⟩
set_option maxRecDepth 20000 in set_option maxHeartbeats 400000 in
theorem arrival_bad (e : Int) (w : World) (h : madeBad e 0 = true) : Calls Tryd.prog 21 #[.int .i64 e] w (RetSt 0 [] 2 w) := by
  go_enter Tryd.func21, Tryd.ntmps21
  go_wp2_with fail
  refine (made_bad _ _ _ _ _ _ h).mono ?_
  rintro e' w1 ⟨rfl, hb⟩
  obtain ⟨hc, hf⟩ := G.old hb
  have k0 := G.cell (a := ⟨w.heap.size, 0, none⟩) (v := .int .i64 0) (by go_simp) hb
  have k1 := G.cell (a := ⟨w.heap.size, 1, none⟩) (v := .slice none 0 0) (by go_simp) hb
  go_wp2
  exact bodyPost_ret (v := .tuple #[.agg #[.int .i64 0, .slice none 0 0], .int .i64 2]) (by simp only [results, Tryd.results21]; go_simp) rfl (RetSt.zero (by repeat (first | with_reducible assumption | with_reducible exact G.refl _ | with_reducible refine G.drew ?_ | with_reducible refine G.drewN ?_ _ | with_reducible refine G.alloc ?_ _ | with_reducible refine Below.setCell ?_ (by first | (simp; done) | (simp; omega)) _ | with_reducible refine G.trans ?_ hb12 | with_reducible refine G.trans ?_ hb11 | with_reducible refine G.trans ?_ hb10 | with_reducible refine G.trans ?_ hb9 | with_reducible refine G.trans ?_ hb8 | with_reducible refine G.trans ?_ hb7 | with_reducible refine G.trans ?_ hb6 | with_reducible refine G.trans ?_ hb5 | with_reducible refine G.trans ?_ hb4 | with_reducible refine G.trans ?_ hb3 | with_reducible refine G.trans ?_ hb2 | with_reducible refine G.trans ?_ hb1 | with_reducible refine G.trans ?_ hb | assumption)))
set_option maxRecDepth 20000 in set_option maxHeartbeats 400000 in
theorem arrival_ok (e : Int) (w : World) (h : madeBad e 0 = false) : Calls Tryd.prog 21 #[.int .i64 e] w (RetSt e [1] 0 w) := by
  go_enter Tryd.func21, Tryd.ntmps21
  go_wp2_with fail
  refine (made_ok _ _ _ _ _ _ h).mono ?_
  rintro e' w1 ⟨rfl, hb⟩
  obtain ⟨hc, hf⟩ := G.old hb
  have k0 := G.cell (a := ⟨w.heap.size, 0, none⟩) (v := .int .i64 0) (by go_simp) hb
  have k1 := G.cell (a := ⟨w.heap.size, 1, none⟩) (v := .slice none 0 0) (by go_simp) hb
  go_wp2
  refine bodyPost_ret (v := .tuple #[.agg #[.int .i64 e, .slice (some ⟨w.heap.size + 1, 0, none⟩) 1 1], .int .i64 0]) (by simp only [results, Tryd.results21]; go_simp) rfl ⟨_, _, rfl, ?_, by simp, by simp [maxLen], Abv.some_ (by simp), ?_⟩
  · have hA : Abv (w.heap.size + 1) (some ⟨w.heap.size + 1, 0, none⟩) := Abv.some_ (Nat.le_refl _)
    refine Sl.setCell (Sl.setCell (Sl.grow ?_ hb) hA (by simp) _) hA (by simp) _
    repeat (first | with_reducible assumption | with_reducible exact Sl.new' (by simp; done) (by simp; done) (by simp; done) | with_reducible refine Sl.drew ?_ | with_reducible refine Sl.drewN ?_ _ | with_reducible refine Sl.alloc ?_ _ | with_reducible refine Sl.grow ?_ hb12 | with_reducible refine Sl.grow ?_ hb11 | with_reducible refine Sl.grow ?_ hb10 | with_reducible refine Sl.grow ?_ hb9 | with_reducible refine Sl.grow ?_ hb8 | with_reducible refine Sl.grow ?_ hb7 | with_reducible refine Sl.grow ?_ hb6 | with_reducible refine Sl.grow ?_ hb5 | with_reducible refine Sl.grow ?_ hb4 | with_reducible refine Sl.grow ?_ hb3 | with_reducible refine Sl.grow ?_ hb2 | with_reducible refine Sl.grow ?_ hb1 | with_reducible refine Sl.grow ?_ hb | assumption)
  · repeat (first | with_reducible assumption | with_reducible exact G.refl _ | with_reducible refine G.drew ?_ | with_reducible refine G.drewN ?_ _ | with_reducible refine G.alloc ?_ _ | with_reducible refine Below.setCell ?_ (by first | (simp; done) | (simp; omega)) _ | with_reducible refine G.trans ?_ hb12 | with_reducible refine G.trans ?_ hb11 | with_reducible refine G.trans ?_ hb10 | with_reducible refine G.trans ?_ hb9 | with_reducible refine G.trans ?_ hb8 | with_reducible refine G.trans ?_ hb7 | with_reducible refine G.trans ?_ hb6 | with_reducible refine G.trans ?_ hb5 | with_reducible refine G.trans ?_ hb4 | with_reducible refine G.trans ?_ hb3 | with_reducible refine G.trans ?_ hb2 | with_reducible refine G.trans ?_ hb1 | with_reducible refine G.trans ?_ hb | assumption)
end Go.Proofs.YtjldpodehffbnaaDoor
