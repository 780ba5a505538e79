/- What cmp.Compare, cmp.Or, slices.CompareFunc, slices.ContainsFunc, stamp.Compare, stamp.Equal and stamp.Check compute, each for every argument. -/
import Derived.Test.YtjldpodehffbnaaRows
import Derived.Test.YtjldpodehffbnaaBase
namespace Go.Proofs.Ytjldpodehffbnaa
set_option linter.unusedVariables false
set_option linter.unnecessarySimpa false
set_option linter.unusedSimpArgs false
open Go.RowKit

set_option maxRecDepth 20000 in set_option maxHeartbeats 400000 in
theorem isNaN_any (a : Int) (w : World) : Calls Try.prog 71 #[.int .i64 a] w fun e w' => e = .returned (.bool false) ∧ w = w' := by
  go_enter Try.func71, Try.ntmps71
  go_wp2
  go_ret
  exact ⟨rfl, rfl⟩

set_option maxRecDepth 20000 in set_option maxHeartbeats 400000 in
theorem cmp_any (a b : Int) (w : World) : Calls Try.prog 48 #[.int .i64 a, .int .i64 b] w fun e w' => e = .returned (.int .i64 (cmpI a b)) ∧ w = w' := by
  go_enter Try.func48, Try.ntmps48
  go_wp2_with (go_at_call 71; refine (isNaN_any _ _).mono ?_; rintro e w' ⟨rfl, rfl⟩)
  · go_ret; exact ⟨ret_i (cmpI_lt ‹_›).symm, rfl⟩
  · go_ret; exact ⟨ret_i (cmpI_gt ‹_›).symm, rfl⟩
  · go_ret; exact ⟨ret_i (cmpI_eq ‹_› ‹_›).symm, rfl⟩

set_option maxRecDepth 20000 in set_option maxHeartbeats 400000 in
theorem cmpf_any (a b : Int) (w : World) : Calls Try.prog 50 #[.int .i64 a, .int .i64 b] w fun e w' => e = .returned (.int .i64 (cmpI a b)) ∧ w = w' := by
  go_enter Try.func50, Try.ntmps50
  go_wp2_with (go_at_call 48; refine (cmp_any _ _ _).mono ?_; rintro e w' ⟨rfl, rfl⟩)
  go_ret
  exact ⟨rfl, rfl⟩

set_option maxRecDepth 20000 in set_option maxHeartbeats 400000 in
theorem compareFunc_any (A B : Option Addr) (n m c d : Nat) (xs ys : List Int) (w : World) (hx : Sl w A n (i64s xs)) (hy : Sl w B m (i64s ys)) (hn : n ≤ maxLen) :
    Calls Try.prog 49 #[.slice A n c, .slice B m d, .func (.func 50) #[] #[]] w fun e w' => e = .returned (.int .i64 (cmpL xs ys)) ∧ w = w' := by
  unfold maxLen at hn
  go_enter Try.func49, Try.ntmps49
  go_wp2
  go_loop [13] (fun i => ∃ k : Nat, k ≤ n ∧ k ≤ m ∧ i = .int .i64 k ∧ Hid (cmpL xs ys = cmpL (xs.drop k) (ys.drop k))) (fun i => n - (intOf i).toNat)
  case atStart => exact ⟨0, Nat.zero_le _, Nat.zero_le _, rfl, rfl⟩
  case round =>
    obtain ⟨k, hk, hkm, rfl, hc⟩ := hrel
    by_cases hlt : k < n
    · obtain ⟨bx, ox, x, rfl, hbx, hxk, hcx⟩ := hx.at_ hlt
      have hdx : Hid (xs.drop k = x :: xs.drop (k+1)) := drop_at hxk
      by_cases hltm : k < m
      · obtain ⟨bz, oy, y, rfl, hby, hyk, hcy⟩ := hy.at_ hltm
        have hdy : Hid (ys.drop k = y :: ys.drop (k+1)) := drop_at hyk
        by_cases hxy : cmpI x y = 0
        · have hne : (cmpI x y != 0) = false := by simp [hxy]
          have hs : Hid (cmpL xs ys = cmpL (xs.drop (k+1)) (ys.drop (k+1))) := by unfold Hid; rw [hc.out, hdx.out, hdy.out, cmpL, if_pos hxy]
          clear hxy
          go_wp2_with (go_at_call 50; refine (cmpf_any _ _ _).mono ?_; rintro e w' ⟨rfl, rfl⟩)
          go_round
          case rel => exact ⟨k+1, by omega, by omega, by go_num, hs⟩
          case measure => simp [intOf]; omega
        · have hne : (cmpI x y != 0) = true := by simp [hxy]
          have hs : Hid (cmpL xs ys = cmpI x y) := by unfold Hid; rw [hc.out, hdx.out, hdy.out, cmpL, if_neg hxy]
          clear hxy
          go_wp2_with (go_at_call 50; refine (cmpf_any _ _ _).mono ?_; rintro e w' ⟨rfl, rfl⟩)
          go_ret
          exact ⟨ret_i hs.out.symm, rfl⟩
      · have hs : Hid (cmpL xs ys = 1) := by
          unfold Hid; rw [hc.out, hdx.out, List.drop_of_length_le (l := ys) (by have := hy.len; omega), cmpL]
        go_wp2
        go_ret
        exact ⟨ret_i hs.out.symm, rfl⟩
    · have hx0 : xs.drop k = [] := List.drop_of_length_le (by have := hx.len; omega)
      have hkn : k = n := by omega
      subst hkn
      by_cases hltm : k < m
      · obtain ⟨bz, oy, y, rfl, hby, hyk, hcy⟩ := hy.at_ hltm
        have hs : Hid (cmpL xs ys = -1) := by
          unfold Hid; rw [hc.out, hx0, drop_at hyk, cmpL]
        clear hx0
        go_wp2
        go_ret
        exact ⟨ret_i hs.out.symm, rfl⟩
      · have hs : Hid (cmpL xs ys = 0) := by
          unfold Hid; rw [hc.out, hx0, List.drop_of_length_le (l := ys) (by have := hy.len; omega), cmpL]
        clear hx0
        go_wp2
        go_ret
        exact ⟨ret_i hs.out.symm, rfl⟩

set_option maxRecDepth 20000 in set_option maxHeartbeats 400000 in
theorem or_any (A : Option Addr) (n c : Nat) (xs : List Int) (w : World) (hx : Sl w A n (i64s xs)) (hn : n ≤ maxLen) :
    Calls Try.prog 47 #[.slice A n c] w fun e w' => e = .returned (.int .i64 (orL xs)) ∧ w = w' := by
  unfold maxLen at hn
  go_enter Try.func47, Try.ntmps47
  go_wp2
  go_loop [8] (fun i => ∃ k : Nat, k ≤ n ∧ i = .int .i64 k ∧ Hid (orL xs = orL (xs.drop k))) (fun i => n - (intOf i).toNat)
  case atStart => exact ⟨0, Nat.zero_le _, rfl, rfl⟩
  case round =>
    obtain ⟨k, hk, rfl, hc⟩ := hrel
    by_cases hlt : k < n
    · obtain ⟨bx, ox, x, rfl, hbx, hxk, hcx⟩ := hx.at_ hlt
      have hdx : Hid (xs.drop k = x :: xs.drop (k+1)) := drop_at hxk
      by_cases hxy : x = 0
      · have hs : Hid (orL xs = orL (xs.drop (k+1))) := by unfold Hid; rw [hc.out, hdx.out, orL, if_pos hxy]
        have hne : (x != 0) = false := by simp [hxy]
        clear hxy
        go_wp2
        go_round
        case rel => exact ⟨k+1, by omega, by go_num, hs⟩
        case measure => simp [intOf]; omega
      · have hs : Hid (orL xs = x) := by unfold Hid; rw [hc.out, hdx.out, orL, if_neg hxy]
        have hne : (x != 0) = true := by simp [hxy]
        clear hxy
        go_wp2
        go_ret
        exact ⟨ret_i hs.out.symm, rfl⟩
    · have hs : Hid (orL xs = 0) := by unfold Hid; rw [hc.out, List.drop_of_length_le (by have := hx.len; omega), orL]
      go_wp2
      go_ret
      exact ⟨ret_i hs.out.symm, rfl⟩

set_option maxRecDepth 20000 in set_option maxHeartbeats 400000 in
theorem compare_any (e f : Int) (A B : Option Addr) (n m c d : Nat) (xs ys : List Int) (w : World) (hx : Sl w A n (i64s xs)) (hy : Sl w B m (i64s ys)) (hn : n ≤ maxLen) :
    Calls Try.prog 25 #[.agg #[.int .i64 e, .slice A n c], .agg #[.int .i64 f, .slice B m d]] w fun e' w' => e' = .returned (.int .i64 (cmpS e xs f ys)) ∧ Below w.heap.size w w' := by
  go_enter Try.func25, Try.ntmps25
  go_wp2
  go_region_held3 (fun w' => w'.cell? ⟨w.heap.size, 0, none⟩ = some (.int .i64 e) ∧ w'.cell? ⟨w.heap.size, 1, none⟩ = some (.slice A n c) ∧ w'.cell? ⟨w.heap.size + 1, 0, none⟩ = some (.int .i64 f) ∧ w'.cell? ⟨w.heap.size + 1, 1, none⟩ = some (.slice B m d)) (go_keep)
    (first | (go_at_call 48; refine (cmp_any _ _ _).mono ?_; rintro e w' ⟨rfl, rfl⟩) | (go_at_call 49; refine (compareFunc_any _ _ _ _ _ _ xs ys _ ?g1 ?g2 hn).mono ?_; (case g1 => (repeat (first | with_reducible assumption | with_reducible exact Sl.new' (by simp; done) (by simp; done) (by simp; done) | with_reducible refine Sl.drew ?_ | with_reducible refine Sl.drewN ?_ _ | with_reducible refine Sl.alloc ?_ _ | with_reducible refine Sl.grow ?_ hb12 | with_reducible refine Sl.grow ?_ hb11 | with_reducible refine Sl.grow ?_ hb10 | with_reducible refine Sl.grow ?_ hb9 | with_reducible refine Sl.grow ?_ hb8 | with_reducible refine Sl.grow ?_ hb7 | with_reducible refine Sl.grow ?_ hb6 | with_reducible refine Sl.grow ?_ hb5 | with_reducible refine Sl.grow ?_ hb4 | with_reducible refine Sl.grow ?_ hb3 | with_reducible refine Sl.grow ?_ hb2 | with_reducible refine Sl.grow ?_ hb1 | with_reducible refine Sl.grow ?_ hb | assumption))); (case g2 => (repeat (first | with_reducible assumption | with_reducible exact Sl.new' (by simp; done) (by simp; done) (by simp; done) | with_reducible refine Sl.drew ?_ | with_reducible refine Sl.drewN ?_ _ | with_reducible refine Sl.alloc ?_ _ | with_reducible refine Sl.grow ?_ hb12 | with_reducible refine Sl.grow ?_ hb11 | with_reducible refine Sl.grow ?_ hb10 | with_reducible refine Sl.grow ?_ hb9 | with_reducible refine Sl.grow ?_ hb8 | with_reducible refine Sl.grow ?_ hb7 | with_reducible refine Sl.grow ?_ hb6 | with_reducible refine Sl.grow ?_ hb5 | with_reducible refine Sl.grow ?_ hb4 | with_reducible refine Sl.grow ?_ hb3 | with_reducible refine Sl.grow ?_ hb2 | with_reducible refine Sl.grow ?_ hb1 | with_reducible refine Sl.grow ?_ hb | assumption))); rintro e w' ⟨rfl, rfl⟩) | (go_at_call 47; refine (or_any _ _ _ [cmpI e f, cmpL xs ys] _ ?g3 ?g4).mono ?_; (case g3 => (repeat (first | with_reducible assumption | with_reducible exact Sl.new' (by simp; done) (by simp; done) (by simp; done) | with_reducible refine Sl.drew ?_ | with_reducible refine Sl.drewN ?_ _ | with_reducible refine Sl.alloc ?_ _ | with_reducible refine Sl.grow ?_ hb12 | with_reducible refine Sl.grow ?_ hb11 | with_reducible refine Sl.grow ?_ hb10 | with_reducible refine Sl.grow ?_ hb9 | with_reducible refine Sl.grow ?_ hb8 | with_reducible refine Sl.grow ?_ hb7 | with_reducible refine Sl.grow ?_ hb6 | with_reducible refine Sl.grow ?_ hb5 | with_reducible refine Sl.grow ?_ hb4 | with_reducible refine Sl.grow ?_ hb3 | with_reducible refine Sl.grow ?_ hb2 | with_reducible refine Sl.grow ?_ hb1 | with_reducible refine Sl.grow ?_ hb | assumption))); (case g4 => simp [maxLen]); rintro e w' ⟨rfl, rfl⟩))
  go_wp2
  go_ret
  refine ⟨ret_i (orL_cmp _ _ _ _), ?_⟩
  repeat (first | with_reducible assumption | with_reducible exact G.refl _ | with_reducible refine G.drew ?_ | with_reducible refine G.drewN ?_ _ | with_reducible refine G.alloc ?_ _ | with_reducible refine Below.setCell ?_ (by first | (simp; done) | (simp; omega)) _ | with_reducible refine G.trans ?_ hb12 | with_reducible refine G.trans ?_ hb11 | with_reducible refine G.trans ?_ hb10 | with_reducible refine G.trans ?_ hb9 | with_reducible refine G.trans ?_ hb8 | with_reducible refine G.trans ?_ hb7 | with_reducible refine G.trans ?_ hb6 | with_reducible refine G.trans ?_ hb5 | with_reducible refine G.trans ?_ hb4 | with_reducible refine G.trans ?_ hb3 | with_reducible refine G.trans ?_ hb2 | with_reducible refine G.trans ?_ hb1 | with_reducible refine G.trans ?_ hb | assumption)

set_option maxRecDepth 20000 in set_option maxHeartbeats 400000 in
theorem equal_any (e f : Int) (A B : Option Addr) (n m c d : Nat) (xs ys : List Int) (w : World) (hx : Sl w A n (i64s xs)) (hy : Sl w B m (i64s ys)) (hn : n ≤ maxLen) :
    Calls Try.prog 15 #[.agg #[.int .i64 e, .slice A n c], .agg #[.int .i64 f, .slice B m d]] w fun e' w' => e' = .returned (.bool (cmpS e xs f ys == 0)) ∧ Below w.heap.size w w' := by
  go_enter Try.func15, Try.ntmps15
  go_wp2_with (go_at_call 25; refine (compare_any _ _ _ _ _ _ _ _ xs ys _ ?g1 ?g2 hn).mono ?_; (case g1 => (repeat (first | with_reducible assumption | with_reducible exact Sl.new' (by simp; done) (by simp; done) (by simp; done) | with_reducible refine Sl.drew ?_ | with_reducible refine Sl.drewN ?_ _ | with_reducible refine Sl.alloc ?_ _ | with_reducible refine Sl.grow ?_ hb12 | with_reducible refine Sl.grow ?_ hb11 | with_reducible refine Sl.grow ?_ hb10 | with_reducible refine Sl.grow ?_ hb9 | with_reducible refine Sl.grow ?_ hb8 | with_reducible refine Sl.grow ?_ hb7 | with_reducible refine Sl.grow ?_ hb6 | with_reducible refine Sl.grow ?_ hb5 | with_reducible refine Sl.grow ?_ hb4 | with_reducible refine Sl.grow ?_ hb3 | with_reducible refine Sl.grow ?_ hb2 | with_reducible refine Sl.grow ?_ hb1 | with_reducible refine Sl.grow ?_ hb | assumption))); (case g2 => (repeat (first | with_reducible assumption | with_reducible exact Sl.new' (by simp; done) (by simp; done) (by simp; done) | with_reducible refine Sl.drew ?_ | with_reducible refine Sl.drewN ?_ _ | with_reducible refine Sl.alloc ?_ _ | with_reducible refine Sl.grow ?_ hb12 | with_reducible refine Sl.grow ?_ hb11 | with_reducible refine Sl.grow ?_ hb10 | with_reducible refine Sl.grow ?_ hb9 | with_reducible refine Sl.grow ?_ hb8 | with_reducible refine Sl.grow ?_ hb7 | with_reducible refine Sl.grow ?_ hb6 | with_reducible refine Sl.grow ?_ hb5 | with_reducible refine Sl.grow ?_ hb4 | with_reducible refine Sl.grow ?_ hb3 | with_reducible refine Sl.grow ?_ hb2 | with_reducible refine Sl.grow ?_ hb1 | with_reducible refine Sl.grow ?_ hb | assumption))); rintro e w1 ⟨rfl, hb⟩)
  go_ret
  refine ⟨rfl, G.trans ?_ hb⟩
  repeat (first | with_reducible assumption | with_reducible exact G.refl _ | with_reducible refine G.drew ?_ | with_reducible refine G.drewN ?_ _ | with_reducible refine G.alloc ?_ _ | with_reducible refine Below.setCell ?_ (by first | (simp; done) | (simp; omega)) _ | with_reducible refine G.trans ?_ hb12 | with_reducible refine G.trans ?_ hb11 | with_reducible refine G.trans ?_ hb10 | with_reducible refine G.trans ?_ hb9 | with_reducible refine G.trans ?_ hb8 | with_reducible refine G.trans ?_ hb7 | with_reducible refine G.trans ?_ hb6 | with_reducible refine G.trans ?_ hb5 | with_reducible refine G.trans ?_ hb4 | with_reducible refine G.trans ?_ hb3 | with_reducible refine G.trans ?_ hb2 | with_reducible refine G.trans ?_ hb1 | with_reducible refine G.trans ?_ hb | assumption)

def badI (n : Int) : Bool := decide (n < 0) || decide (65535 < n)
theorem badI_yes1 {n : Int} (h : n < 0) : badI n = true := by unfold badI; simp [h]
theorem badI_yes2 {n : Int} (h : 65535 < n) : badI n = true := by unfold badI; simp [h]
theorem badI_no {n : Int} (h : ¬ n < 0) (h' : ¬ 65535 < n) : badI n = false := by unfold badI; simp; omega
set_option maxRecDepth 20000 in set_option maxHeartbeats 400000 in
theorem bad_any (n : Int) (w : World) : Calls Try.prog 68 #[.int .i64 n] w fun e w' => e = .returned (.bool (badI n)) ∧ w = w' := by
  by_cases h : n < 0
  · go_enter Try.func68, Try.ntmps68
    go_wp2
    go_ret
    exact ⟨ret_b (badI_yes1 h).symm, rfl⟩
  · by_cases h' : 65535 < n
    · go_enter Try.func68, Try.ntmps68
      go_wp2
      go_ret
      exact ⟨ret_b (badI_yes2 h').symm, rfl⟩
    · go_enter Try.func68, Try.ntmps68
      go_wp2
      go_ret
      exact ⟨ret_b (badI_no (by omega) (by omega)).symm, rfl⟩

/-- The index of the first number that is no index of a path, or -1. -/
def idxB : List Int → Int → Int
  | [], _ => -1
  | x :: xs, k => if badI x then k else idxB xs (k + 1)
theorem idxB_any (xs : List Int) (k : Int) (hk : 0 ≤ k) : decide (0 ≤ idxB xs k) = xs.any badI := by
  induction xs generalizing k with
  | nil => simp [idxB]
  | cons x xs ih =>
    by_cases h : badI x = true
    · simp [idxB, h, hk]
    · simp only [Bool.not_eq_true] at h
      simp only [idxB, h, List.any_cons, Bool.false_or, Bool.false_eq_true, if_false]
      exact ih _ (by omega)
set_option maxRecDepth 20000 in set_option maxHeartbeats 400000 in
theorem indexFunc_any (A : Option Addr) (n c : Nat) (xs : List Int) (w : World) (hx : Sl w A n (i64s xs)) (hn : n ≤ maxLen) :
    Calls Try.prog 74 #[.slice A n c, .func (.func 68) #[] #[]] w fun e w' => e = .returned (.int .i64 (idxB xs 0)) ∧ w = w' := by
  unfold maxLen at hn
  go_enter Try.func74, Try.ntmps74
  go_wp2
  go_loop [8] (fun i => ∃ k : Nat, k ≤ n ∧ i = .int .i64 k ∧ Hid (idxB xs 0 = idxB (xs.drop k) k)) (fun i => n - (intOf i).toNat)
  case atStart => exact ⟨0, Nat.zero_le _, rfl, rfl⟩
  case round =>
    obtain ⟨k, hk, rfl, hc⟩ := hrel
    by_cases hlt : k < n
    · obtain ⟨bx, ox, x, rfl, hbx, hxk, hcx⟩ := hx.at_ hlt
      have hdx : Hid (xs.drop k = x :: xs.drop (k+1)) := drop_at hxk
      by_cases hxy : badI x = true
      · have hs : Hid (idxB xs 0 = k) := by unfold Hid; rw [hc.out, hdx.out, idxB, if_pos hxy]
        go_wp2_with (go_at_call 68; refine (bad_any _ _).mono ?_; rintro e w' ⟨rfl, rfl⟩)
        go_ret
        exact ⟨ret_i hs.out.symm, rfl⟩
      · have hs : Hid (idxB xs 0 = idxB (xs.drop (k+1)) ((k + 1 : Nat) : Int)) := by unfold Hid; rw [hc.out, hdx.out, idxB, if_neg hxy]; rfl
        have hxy : badI x = false := by simpa using hxy
        go_wp2_with (go_at_call 68; refine (bad_any _ _).mono ?_; rintro e w' ⟨rfl, rfl⟩)
        go_round
        case rel => exact ⟨k+1, by omega, by go_num, hs⟩
        case measure => simp [intOf]; omega
    · have hs : Hid (idxB xs 0 = -1) := by unfold Hid; rw [hc.out, List.drop_of_length_le (by have := hx.len; omega), idxB]
      go_wp2
      go_ret
      exact ⟨ret_i hs.out.symm, rfl⟩
set_option maxRecDepth 20000 in set_option maxHeartbeats 400000 in
theorem containsFunc_any (A : Option Addr) (n c : Nat) (xs : List Int) (w : World) (hx : Sl w A n (i64s xs)) (hn : n ≤ maxLen) :
    Calls Try.prog 67 #[.slice A n c, .func (.func 68) #[] #[]] w fun e w' => e = .returned (.bool (xs.any badI)) ∧ w = w' := by
  go_enter Try.func67, Try.ntmps67
  go_wp2_with (go_at_call 74; refine (indexFunc_any _ _ _ xs _ hx hn).mono ?_; rintro e w' ⟨rfl, rfl⟩)
  go_ret
  exact ⟨ret_b (idxB_any xs 0 (Int.le_refl _)), rfl⟩
end Go.Proofs.Ytjldpodehffbnaa
