/- What the reference's Is, trim, digit and above compute. -/
import Derived.Test.YtoipapcbngknfaaDoorDec1
namespace Go.Proofs.YtoipapcbngknfaaDoor
set_option linter.unusedVariables false
set_option linter.unnecessarySimpa false
set_option linter.unusedSimpArgs false
open Go.RowKit

set_option maxRecDepth 20000 in set_option maxHeartbeats 400000 in
theorem is_any (n s : Int) (w : World) : Calls Tryd.prog 18 #[.agg #[.int .i64 n, .int .i64 s]] w fun e w' => e = .returned (.bool (okN n s)) ∧ Below w.heap.size w w' := by
  by_cases h1 : -999999999999999 ≤ n
  · by_cases h2 : n ≤ 999999999999999
    · by_cases h3 : 0 ≤ s
      · by_cases h4 : s ≤ 12
        · have hr : Hid (okN n s = true) := okN_iff.2 ⟨h1, h2, h3, h4⟩
          go_enter Tryd.func18, Tryd.ntmps18
          go_wp2
          go_ret
          exact ⟨ret_b hr.out.symm, by repeat (first | with_reducible assumption | with_reducible exact G.refl _ | with_reducible refine G.drew ?_ | with_reducible refine G.drewN ?_ _ | with_reducible refine G.alloc ?_ _ | with_reducible refine Below.setCell ?_ (by first | (simp; done) | (simp; omega)) _ | with_reducible refine G.trans ?_ hb12 | with_reducible refine G.trans ?_ hb11 | with_reducible refine G.trans ?_ hb10 | with_reducible refine G.trans ?_ hb9 | with_reducible refine G.trans ?_ hb8 | with_reducible refine G.trans ?_ hb7 | with_reducible refine G.trans ?_ hb6 | with_reducible refine G.trans ?_ hb5 | with_reducible refine G.trans ?_ hb4 | with_reducible refine G.trans ?_ hb3 | with_reducible refine G.trans ?_ hb2 | with_reducible refine G.trans ?_ hb1 | with_reducible refine G.trans ?_ hb | assumption)⟩
        · have hr : Hid (okN n s = false) := by unfold Hid; rw [Bool.eq_false_iff]; intro h; exact h4 (okN_iff.1 h).2.2.2
          go_enter Tryd.func18, Tryd.ntmps18
          go_wp2
          go_ret
          exact ⟨ret_b hr.out.symm, by repeat (first | with_reducible assumption | with_reducible exact G.refl _ | with_reducible refine G.drew ?_ | with_reducible refine G.drewN ?_ _ | with_reducible refine G.alloc ?_ _ | with_reducible refine Below.setCell ?_ (by first | (simp; done) | (simp; omega)) _ | with_reducible refine G.trans ?_ hb12 | with_reducible refine G.trans ?_ hb11 | with_reducible refine G.trans ?_ hb10 | with_reducible refine G.trans ?_ hb9 | with_reducible refine G.trans ?_ hb8 | with_reducible refine G.trans ?_ hb7 | with_reducible refine G.trans ?_ hb6 | with_reducible refine G.trans ?_ hb5 | with_reducible refine G.trans ?_ hb4 | with_reducible refine G.trans ?_ hb3 | with_reducible refine G.trans ?_ hb2 | with_reducible refine G.trans ?_ hb1 | with_reducible refine G.trans ?_ hb | assumption)⟩
      · have hr : Hid (okN n s = false) := by unfold Hid; rw [Bool.eq_false_iff]; intro h; exact h3 (okN_iff.1 h).2.2.1
        go_enter Tryd.func18, Tryd.ntmps18
        go_wp2
        go_ret
        exact ⟨ret_b hr.out.symm, by repeat (first | with_reducible assumption | with_reducible exact G.refl _ | with_reducible refine G.drew ?_ | with_reducible refine G.drewN ?_ _ | with_reducible refine G.alloc ?_ _ | with_reducible refine Below.setCell ?_ (by first | (simp; done) | (simp; omega)) _ | with_reducible refine G.trans ?_ hb12 | with_reducible refine G.trans ?_ hb11 | with_reducible refine G.trans ?_ hb10 | with_reducible refine G.trans ?_ hb9 | with_reducible refine G.trans ?_ hb8 | with_reducible refine G.trans ?_ hb7 | with_reducible refine G.trans ?_ hb6 | with_reducible refine G.trans ?_ hb5 | with_reducible refine G.trans ?_ hb4 | with_reducible refine G.trans ?_ hb3 | with_reducible refine G.trans ?_ hb2 | with_reducible refine G.trans ?_ hb1 | with_reducible refine G.trans ?_ hb | assumption)⟩
    · have hr : Hid (okN n s = false) := by unfold Hid; rw [Bool.eq_false_iff]; intro h; exact h2 (okN_iff.1 h).2.1
      go_enter Tryd.func18, Tryd.ntmps18
      go_wp2
      go_ret
      exact ⟨ret_b hr.out.symm, by repeat (first | with_reducible assumption | with_reducible exact G.refl _ | with_reducible refine G.drew ?_ | with_reducible refine G.drewN ?_ _ | with_reducible refine G.alloc ?_ _ | with_reducible refine Below.setCell ?_ (by first | (simp; done) | (simp; omega)) _ | with_reducible refine G.trans ?_ hb12 | with_reducible refine G.trans ?_ hb11 | with_reducible refine G.trans ?_ hb10 | with_reducible refine G.trans ?_ hb9 | with_reducible refine G.trans ?_ hb8 | with_reducible refine G.trans ?_ hb7 | with_reducible refine G.trans ?_ hb6 | with_reducible refine G.trans ?_ hb5 | with_reducible refine G.trans ?_ hb4 | with_reducible refine G.trans ?_ hb3 | with_reducible refine G.trans ?_ hb2 | with_reducible refine G.trans ?_ hb1 | with_reducible refine G.trans ?_ hb | assumption)⟩
  · have hr : Hid (okN n s = false) := by unfold Hid; rw [Bool.eq_false_iff]; intro h; exact h1 (okN_iff.1 h).1
    go_enter Tryd.func18, Tryd.ntmps18
    go_wp2
    go_ret
    exact ⟨ret_b hr.out.symm, by repeat (first | with_reducible assumption | with_reducible exact G.refl _ | with_reducible refine G.drew ?_ | with_reducible refine G.drewN ?_ _ | with_reducible refine G.alloc ?_ _ | with_reducible refine Below.setCell ?_ (by first | (simp; done) | (simp; omega)) _ | with_reducible refine G.trans ?_ hb12 | with_reducible refine G.trans ?_ hb11 | with_reducible refine G.trans ?_ hb10 | with_reducible refine G.trans ?_ hb9 | with_reducible refine G.trans ?_ hb8 | with_reducible refine G.trans ?_ hb7 | with_reducible refine G.trans ?_ hb6 | with_reducible refine G.trans ?_ hb5 | with_reducible refine G.trans ?_ hb4 | with_reducible refine G.trans ?_ hb3 | with_reducible refine G.trans ?_ hb2 | with_reducible refine G.trans ?_ hb1 | with_reducible refine G.trans ?_ hb | assumption)⟩

def sgn (z : Int) : Int := if z < 0 then -1 else if z = 0 then 0 else 1
/-- The slice holds the digits of z. -/
def Wd (w : World) (A : Option Addr) (n c : Nat) (z : Int) : Prop := Sl w A n (i64s (digs z.natAbs)) ∧ n ≤ c ∧ c ≤ maxLen
theorem Wd.grow {w w' : World} {A : Option Addr} {n c : Nat} {z : Int} (h : Wd w A n c z) (hb : Below w.heap.size w w') : Wd w' A n c z := ⟨h.1.grow hb, h.2⟩
theorem Wd.len {w : World} {A : Option Addr} {n c : Nat} {z : Int} (h : Wd w A n c z) : (digs z.natAbs).length = n := h.1.len
/-- The call gives a wide integer. -/
def RetW (z : Int) (w : World) (e : Ending) (w' : World) : Prop := ∃ A n c, e = .returned (.agg #[.int .i64 (sgn z), .slice A n c]) ∧ Wd w' A n c z ∧ Abv w.heap.size A ∧ Below w.heap.size w w'

/-- trim's sign. -/
def tsgn (s : Int) (l : List Int) : Int := if valD l = 0 then 0 else s
/-- What trim gives. -/
def RetT (s : Int) (A : Option Addr) (c : Nat) (l : List Int) (w : World) (e : Ending) (w' : World) : Prop :=
  ∃ n, e = .returned (.agg #[.int .i64 (tsgn s l), .slice A n c]) ∧ Sl w' A n (i64s (digs (valD l).toNat)) ∧ n ≤ c ∧ Below w.heap.size w w'
set_option maxRecDepth 20000 in set_option maxHeartbeats 400000 in
theorem trim_any (s : Int) (A : Option Addr) (n c : Nat) (l : List Int) (w : World) (hx : Sl w A n (i64s l)) (hd : Dig l) (hnc : n ≤ c) (hcm : c ≤ maxLen) :
    Calls Tryd.prog 48 #[.agg #[.int .i64 s, .slice A n c]] w (RetT s A c l w) := by
  have hl := Lib.hid hx.len
  have hd' := Lib.hid hd
  have hcm' := Lib.hid hcm
  unfold maxLen at hcm
  clear hd
  go_enter Tryd.func48, Tryd.ntmps48
  go_wp2
  go_loop [3] (fun i => ∃ m : Nat, m ≤ n ∧ i = .int .i64 m ∧ Hid (valD (l.take m) = valD l)) (fun i => (intOf i).toNat)
  case atStart => exact ⟨n, Nat.le_refl _, rfl, by unfold Hid; rw [List.take_of_length_le (by have := hl.out; omega)]⟩
  case round =>
    obtain ⟨m, hm, rfl, hv⟩ := hrel
    have hend : ∀ (hz : ∀ d, 0 < m → l[m - 1]? = some d → d ≠ 0), Hid (Sl w A m (i64s (digs (valD l).toNat)) ∧ (valD l = 0 ↔ m = 0)) := by
      intro hz
      have h1 := take_digs hd'.out (by have := hl.out; omega) hv.out hz
      have hnn := valD_nonneg hd'.out
      refine ⟨?_, ?_⟩
      · rw [← h1, ← i64s_take]; exact hx.take hm
      · have hlen : (l.take m).length = m := by rw [List.length_take]; have := hl.out; omega
        rw [h1] at hlen
        constructor
        · intro h0; rw [h0] at hlen; simp [digs_zero] at hlen; omega
        · intro h0
          have h2 : digs (valD l).toNat = [] := List.eq_nil_of_length_eq_zero (by omega)
          have := digs_nil.1 h2
          omega
    have hm0 : (0 : Int) ≤ (m : Int) := by omega
    have hmc : (m : Int) ≤ (c : Int) := by omega
    cases m with
    | zero =>
      have hE := hend (fun d h => absurd h (by omega))
      have hs : Hid (tsgn s l = 0) := if_pos (hE.out.2.2 rfl)
      clear hend
      go_wp2
      refine bodyPost_ret (v := .agg #[.int .i64 0, .slice A 0 c]) (by simp only [results, Tryd.results48]; go_simp) rfl ⟨0, by rw [hs.out], ?_, Nat.zero_le _, by repeat (first | with_reducible assumption | with_reducible exact G.refl _ | with_reducible refine G.drew ?_ | with_reducible refine G.drewN ?_ _ | with_reducible refine G.alloc ?_ _ | with_reducible refine Below.setCell ?_ (by first | (simp; done) | (simp; omega)) _ | with_reducible refine G.trans ?_ hb12 | with_reducible refine G.trans ?_ hb11 | with_reducible refine G.trans ?_ hb10 | with_reducible refine G.trans ?_ hb9 | with_reducible refine G.trans ?_ hb8 | with_reducible refine G.trans ?_ hb7 | with_reducible refine G.trans ?_ hb6 | with_reducible refine G.trans ?_ hb5 | with_reducible refine G.trans ?_ hb4 | with_reducible refine G.trans ?_ hb3 | with_reducible refine G.trans ?_ hb2 | with_reducible refine G.trans ?_ hb1 | with_reducible refine G.trans ?_ hb | assumption)⟩
      have := hE.out.1
      repeat (first | with_reducible assumption | with_reducible exact Sl.new' (by simp; done) (by simp; done) (by simp; done) | with_reducible refine Sl.drew ?_ | with_reducible refine Sl.drewN ?_ _ | with_reducible refine Sl.alloc ?_ _ | with_reducible refine Sl.grow ?_ hb12 | with_reducible refine Sl.grow ?_ hb11 | with_reducible refine Sl.grow ?_ hb10 | with_reducible refine Sl.grow ?_ hb9 | with_reducible refine Sl.grow ?_ hb8 | with_reducible refine Sl.grow ?_ hb7 | with_reducible refine Sl.grow ?_ hb6 | with_reducible refine Sl.grow ?_ hb5 | with_reducible refine Sl.grow ?_ hb4 | with_reducible refine Sl.grow ?_ hb3 | with_reducible refine Sl.grow ?_ hb2 | with_reducible refine Sl.grow ?_ hb1 | with_reducible refine Sl.grow ?_ hb | assumption)
    | succ m =>
      obtain ⟨b, off, x, rfl, hbx, hxk, hcx⟩ := hx.at_ (k := m) (by omega)
      have hmn : m < n := by omega
      have hb1 : b < w.heap.size + 1 := by omega
      by_cases hx0 : x = 0
      · subst hx0
        have hv2 : Hid (valD (l.take m) = valD l) := (valD_take_zero hxk).symm.trans hv.out
        clear hend hxk
        go_wp2
        go_round
        case rel => exact ⟨m, by omega, by go_num, hv2⟩
        case measure => first | (simp [intOf]; done) | (simp [intOf]; omega)
      · have hE := hend (fun d _ hdk => by
          rw [Nat.add_sub_cancel, hxk] at hdk
          cases hdk
          exact hx0)
        have hs : Hid (tsgn s l = s) := if_neg (fun h => by have := hE.out.2.1 h; omega)
        have hxb : (x == 0) = false := by simp [hx0]
        clear hend hx0 hxk
        go_wp2
        refine bodyPost_ret (v := .agg #[.int .i64 s, .slice (some ⟨b, off, none⟩) (m + 1) c]) (by simp only [results, Tryd.results48]; go_simp) rfl ⟨m + 1, by rw [hs.out], ?_, by omega, by repeat (first | with_reducible assumption | with_reducible exact G.refl _ | with_reducible refine G.drew ?_ | with_reducible refine G.drewN ?_ _ | with_reducible refine G.alloc ?_ _ | with_reducible refine Below.setCell ?_ (by first | (simp; done) | (simp; omega)) _ | with_reducible refine G.trans ?_ hb12 | with_reducible refine G.trans ?_ hb11 | with_reducible refine G.trans ?_ hb10 | with_reducible refine G.trans ?_ hb9 | with_reducible refine G.trans ?_ hb8 | with_reducible refine G.trans ?_ hb7 | with_reducible refine G.trans ?_ hb6 | with_reducible refine G.trans ?_ hb5 | with_reducible refine G.trans ?_ hb4 | with_reducible refine G.trans ?_ hb3 | with_reducible refine G.trans ?_ hb2 | with_reducible refine G.trans ?_ hb1 | with_reducible refine G.trans ?_ hb | assumption)⟩
        have := hE.out.1
        repeat (first | with_reducible assumption | with_reducible exact Sl.new' (by simp; done) (by simp; done) (by simp; done) | with_reducible refine Sl.drew ?_ | with_reducible refine Sl.drewN ?_ _ | with_reducible refine Sl.alloc ?_ _ | with_reducible refine Sl.grow ?_ hb12 | with_reducible refine Sl.grow ?_ hb11 | with_reducible refine Sl.grow ?_ hb10 | with_reducible refine Sl.grow ?_ hb9 | with_reducible refine Sl.grow ?_ hb8 | with_reducible refine Sl.grow ?_ hb7 | with_reducible refine Sl.grow ?_ hb6 | with_reducible refine Sl.grow ?_ hb5 | with_reducible refine Sl.grow ?_ hb4 | with_reducible refine Sl.grow ?_ hb3 | with_reducible refine Sl.grow ?_ hb2 | with_reducible refine Sl.grow ?_ hb1 | with_reducible refine Sl.grow ?_ hb | assumption)

set_option maxRecDepth 20000 in set_option maxHeartbeats 400000 in
theorem digit_any (s : Int) (A : Option Addr) (n c : Nat) (l : List Int) (i : Nat) (w : World) (hx : Sl w A n (i64s l)) (hn : n ≤ maxLen) :
    Calls Tryd.prog 47 #[.agg #[.int .i64 s, .slice A n c], .int .i64 i] w fun e w' => e = .returned (.int .i64 (dg l i)) ∧ Below w.heap.size w w' := by
  have hl := Lib.hid hx.len
  unfold maxLen at hn
  by_cases h : i < n
  · obtain ⟨b, off, x, rfl, hbx, hxk, hcx⟩ := hx.at_ h
    have hr : Hid (dg l i = x) := by unfold Hid dg; rw [List.getD_eq_getElem?_getD, hxk]; rfl
    have hb1 : b < w.heap.size + 1 := by omega
    clear hxk
    go_enter Tryd.func47, Tryd.ntmps47
    go_wp2
    go_ret
    exact ⟨ret_i hr.out.symm, by repeat (first | with_reducible assumption | with_reducible exact G.refl _ | with_reducible refine G.drew ?_ | with_reducible refine G.drewN ?_ _ | with_reducible refine G.alloc ?_ _ | with_reducible refine Below.setCell ?_ (by first | (simp; done) | (simp; omega)) _ | with_reducible refine G.trans ?_ hb12 | with_reducible refine G.trans ?_ hb11 | with_reducible refine G.trans ?_ hb10 | with_reducible refine G.trans ?_ hb9 | with_reducible refine G.trans ?_ hb8 | with_reducible refine G.trans ?_ hb7 | with_reducible refine G.trans ?_ hb6 | with_reducible refine G.trans ?_ hb5 | with_reducible refine G.trans ?_ hb4 | with_reducible refine G.trans ?_ hb3 | with_reducible refine G.trans ?_ hb2 | with_reducible refine G.trans ?_ hb1 | with_reducible refine G.trans ?_ hb | assumption)⟩
  · have hr : Hid (dg l i = 0) := by unfold Hid dg; rw [List.getD_eq_getElem?_getD, List.getElem?_eq_none (by have := hl.out; omega)]; rfl
    go_enter Tryd.func47, Tryd.ntmps47
    go_wp2
    go_ret
    exact ⟨ret_i hr.out.symm, by repeat (first | with_reducible assumption | with_reducible exact G.refl _ | with_reducible refine G.drew ?_ | with_reducible refine G.drewN ?_ _ | with_reducible refine G.alloc ?_ _ | with_reducible refine Below.setCell ?_ (by first | (simp; done) | (simp; omega)) _ | with_reducible refine G.trans ?_ hb12 | with_reducible refine G.trans ?_ hb11 | with_reducible refine G.trans ?_ hb10 | with_reducible refine G.trans ?_ hb9 | with_reducible refine G.trans ?_ hb8 | with_reducible refine G.trans ?_ hb7 | with_reducible refine G.trans ?_ hb6 | with_reducible refine G.trans ?_ hb5 | with_reducible refine G.trans ?_ hb4 | with_reducible refine G.trans ?_ hb3 | with_reducible refine G.trans ?_ hb2 | with_reducible refine G.trans ?_ hb1 | with_reducible refine G.trans ?_ hb | assumption)⟩

theorem cmp_step {xs ys : List Int} (hx : Dig xs) (hy : Dig ys) {k : Nat} (h : valD (xs.drop (k + 1)) = valD (ys.drop (k + 1))) :
    (dg xs k < dg ys k → cmpI (valD xs) (valD ys) = -1) ∧ (dg ys k < dg xs k → cmpI (valD xs) (valD ys) = 1) ∧ (¬ dg xs k < dg ys k → ¬ dg ys k < dg xs k → valD (xs.drop k) = valD (ys.drop k)) := by
  refine ⟨fun hlt => cmpI_lt (valD_cmp_lt hx hy h hlt), fun hlt => cmpI_gt (valD_cmp_lt hy hx h.symm hlt), fun h1 h2 => ?_⟩
  rw [valD_drop xs k, valD_drop ys k, h]
  omega
set_option maxRecDepth 20000 in set_option maxHeartbeats 1000000 in
theorem above_any (s t : Int) (A B : Option Addr) (n m c d : Nat) (xs ys : List Int) (w : World) (hx : Sl w A n (i64s xs)) (hy : Sl w B m (i64s ys)) (hdx : Dig xs) (hdy : Dig ys) (hn : n ≤ 1000000) (hm : m ≤ 1000000) :
    Calls Tryd.prog 46 #[.agg #[.int .i64 s, .slice A n c], .agg #[.int .i64 t, .slice B m d]] w fun e w' => e = .returned (.int .i64 (cmpI (valD xs) (valD ys))) ∧ Below w.heap.size w w' := by
  have hlx := Lib.hid hx.len
  have hly := Lib.hid hy.len
  have HX := Lib.hid hdx
  have HY := Lib.hid hdy
  clear hdx hdy
  have body : ∀ M : Nat, M ≤ 1000000 → n ≤ M → m ≤ M → ((m ≤ n ∧ M = n) ∨ (n < m ∧ M = m)) → Calls Tryd.prog 46 #[.agg #[.int .i64 s, .slice A n c], .agg #[.int .i64 t, .slice B m d]] w fun e w' => e = .returned (.int .i64 (cmpI (valD xs) (valD ys))) ∧ Below w.heap.size w w' := by
    intro M hM hnM hmM hcase
    have hstart : Hid (valD (xs.drop M) = valD (ys.drop M)) := by
      unfold Hid; rw [List.drop_of_length_le (by have := hlx.out; omega), List.drop_of_length_le (by have := hly.out; omega)]
    rcases hcase with ⟨hc1, rfl⟩ | ⟨hc1, rfl⟩
    · have hc2 : (m : Int) ≤ (M : Int) := by omega
      go_enter Tryd.func46, Tryd.ntmps46
      go_wp2_with fail
      refine wp_name (fun w1 => Below w.heap.size w w1 ∧ w1.cell? ⟨w.heap.size, 0, none⟩ = some (.int .i64 s) ∧ w1.cell? ⟨w.heap.size, 1, none⟩ = some (.slice A M c) ∧ w1.cell? ⟨w.heap.size + 1, 0, none⟩ = some (.int .i64 t) ∧ w1.cell? ⟨w.heap.size + 1, 1, none⟩ = some (.slice B m d)) ⟨by repeat (first | with_reducible assumption | with_reducible exact G.refl _ | with_reducible refine G.drew ?_ | with_reducible refine G.drewN ?_ _ | with_reducible refine G.alloc ?_ _ | with_reducible refine Below.setCell ?_ (by first | (simp; done) | (simp; omega)) _ | with_reducible refine G.trans ?_ hb12 | with_reducible refine G.trans ?_ hb11 | with_reducible refine G.trans ?_ hb10 | with_reducible refine G.trans ?_ hb9 | with_reducible refine G.trans ?_ hb8 | with_reducible refine G.trans ?_ hb7 | with_reducible refine G.trans ?_ hb6 | with_reducible refine G.trans ?_ hb5 | with_reducible refine G.trans ?_ hb4 | with_reducible refine G.trans ?_ hb3 | with_reducible refine G.trans ?_ hb2 | with_reducible refine G.trans ?_ hb1 | with_reducible refine G.trans ?_ hb | assumption), by go_simp, by go_simp, by go_simp, by go_simp⟩ ?_
      rintro w1 ⟨hb1, k0, k1, k2, k3⟩
      have lt0 := cell_lt k0
      have lt2 := cell_lt k2
      have hx1 := hx.grow hb1
      have hy1 := hy.grow hb1
      have DX := Lib.hid (fun w k hq => digit_any s A M c xs k w hq (by unfold maxLen; omega))
      have DY := Lib.hid (fun w k hq => digit_any t B m d ys k w hq (by unfold maxLen; omega))
      clear hx hy
      go_loopw [5] (fun i wr => ∃ v : Int, -1 ≤ v ∧ v < M ∧ i = .int .i64 v ∧ Hid (valD (xs.drop (v + 1).toNat) = valD (ys.drop (v + 1).toNat)) ∧ Below w1.heap.size w1 wr) (fun i _ => (intOf i + 1).toNat)
      case atStart => exact ⟨(M : Int) - 1, by omega, by omega, rfl, by rw [show ((M : Int) - 1 + 1).toNat = M by omega]; exact hstart, G.refl _⟩
      case round =>
        obtain ⟨v, hv0, hvM, rfl, hv, hbr⟩ := hrel
        by_cases hv1 : 0 ≤ v
        · obtain ⟨k, rfl⟩ : ∃ k : Nat, v = k := ⟨v.toNat, by omega⟩
          rw [show ((k : Int) + 1).toNat = k + 1 by omega] at hv
          obtain ⟨st1, st2, st3⟩ := cmp_step HX.out HY.out hv.out
          have st1' := Lib.hid st1
          have st2' := Lib.hid st2
          have st3' := Lib.hid st3
          clear st1 st2 st3 hv
          have hxr := hx1.grow hbr
          have hyr := hy1.grow hbr
          generalize hp : dg xs k = p at *
          generalize hq : dg ys k = q at *
          have hp' := Lib.hid hp
          have hq' := Lib.hid hq
          clear hp hq
          obtain ⟨hcr, hfr⟩ := G.old hbr
          replace k0 := G.cell k0 hbr
          replace k1 := G.cell k1 hbr
          replace k2 := G.cell k2 hbr
          replace k3 := G.cell k3 hbr
          replace lt0 := cell_lt k0
          replace lt2 := cell_lt k2
          clear hcr hfr
          go_wp2_with fail
          refine wp_region_ord [(0, 1), (1, 1), (3, 1), (4, 1), (2, 2), (5, 2), (6, 1)] [] 5 (by kernel_rfl) (by decide +kernel) ?_
          simp only [pickO, List.getElem?_cons_succ, List.getElem?_cons_zero]
          intro w0 hG
          (repeat ((first | (with_reducible refine ord_q1 ?_) | (with_reducible refine ord_q0 ?_)); intro K hK; first | (refine Or.inr ⟨?_, ?_⟩; (focus (go_simp; first | done | (simp [undef]; done))); go_simp; (with_reducible refine hK _ ?_); clear hK K) | (refine Or.inl ⟨?_, ?_⟩; (focus (go_simp; done)); apply Exists.intro; refine And.intro ?_ ?_; (focus (first | (intro wq hq; obtain ⟨hcq, hfq⟩ := G.old hq; go_simp; (first | done | exact rfl); done) | (intro wq; go_simp; (first | done | exact rfl); done))); go_simp; (with_reducible refine hK _ ?_); clear hK K) | fail))
          (with_reducible refine ord_run ?_ hG)
          intro K hK
          go_simp
          go_at_call 47; (with_reducible refine (DX.out _ k (hxr.grow hG.b)).mono ?_); rintro e w2 ⟨rfl, hb2⟩; rw [hp'.out]
          replace hG := Grew.trans hG hb2
          (try dsimp only)
          (with_reducible refine hK _ _ hG ?_)
          clear hK K
          (repeat ((first | (with_reducible refine ord_q1 ?_) | (with_reducible refine ord_q0 ?_)); intro K hK; first | (refine Or.inr ⟨?_, ?_⟩; (focus (go_simp; first | done | (simp [undef]; done))); go_simp; (with_reducible refine hK _ ?_); clear hK K) | (refine Or.inl ⟨?_, ?_⟩; (focus (go_simp; done)); apply Exists.intro; refine And.intro ?_ ?_; (focus (first | (intro wq hq; obtain ⟨hcq, hfq⟩ := G.old hq; go_simp; (first | done | exact rfl); done) | (intro wq; go_simp; (first | done | exact rfl); done))); go_simp; (with_reducible refine hK _ ?_); clear hK K) | fail))
          (with_reducible refine ord_run ?_ hG)
          intro K hK
          go_simp
          go_at_call 47; (with_reducible refine (DY.out _ k (hyr.grow hG.b)).mono ?_); rintro e w3 ⟨rfl, hb3⟩; rw [hq'.out]
          replace hG := Grew.trans hG hb3
          (try dsimp only)
          (with_reducible refine hK _ _ hG ?_)
          clear hK K
          (repeat ((first | (with_reducible refine ord_q1 ?_) | (with_reducible refine ord_q0 ?_)); intro K hK; first | (refine Or.inr ⟨?_, ?_⟩; (focus (go_simp; first | done | (simp [undef]; done))); go_simp; (with_reducible refine hK _ ?_); clear hK K) | (refine Or.inl ⟨?_, ?_⟩; (focus (go_simp; done)); apply Exists.intro; refine And.intro ?_ ?_; (focus (first | (intro wq hq; obtain ⟨hcq, hfq⟩ := G.old hq; go_simp; (first | done | exact rfl); done) | (intro wq; go_simp; (first | done | exact rfl); done))); go_simp; (with_reducible refine hK _ ?_); clear hK K) | fail))
          (with_reducible refine ord_nil ?_)
          have hB := G.trans hbr hG.b
          have hB' := hG.b
          by_cases h1 : p < q
          · have hr := Lib.hid (st1'.out h1)
            go_wp2_with fail
            go_ret
            exact ⟨ret_i hr.out.symm, G.trans hb1 hB⟩
          · replace k0 := G.cell k0 hG.b
            replace k1 := G.cell k1 hG.b
            replace k2 := G.cell k2 hG.b
            replace k3 := G.cell k3 hG.b
            replace lt0 := cell_lt k0
            replace lt2 := cell_lt k2
            clear hG hb2 hb3
            go_wp2_with fail
            refine wp_region_ord [(0, 1), (1, 1), (3, 1), (4, 1), (2, 2), (5, 2), (6, 1)] [] 5 (by kernel_rfl) (by decide +kernel) ?_
            simp only [pickO, List.getElem?_cons_succ, List.getElem?_cons_zero]
            intro w0 hG
            (repeat ((first | (with_reducible refine ord_q1 ?_) | (with_reducible refine ord_q0 ?_)); intro K hK; first | (refine Or.inr ⟨?_, ?_⟩; (focus (go_simp; first | done | (simp [undef]; done))); go_simp; (with_reducible refine hK _ ?_); clear hK K) | (refine Or.inl ⟨?_, ?_⟩; (focus (go_simp; done)); apply Exists.intro; refine And.intro ?_ ?_; (focus (first | (intro wq hq; obtain ⟨hcq, hfq⟩ := G.old hq; go_simp; (first | done | exact rfl); done) | (intro wq; go_simp; (first | done | exact rfl); done))); go_simp; (with_reducible refine hK _ ?_); clear hK K) | fail))
            (with_reducible refine ord_run ?_ hG)
            intro K hK
            go_simp
            go_at_call 47; (with_reducible refine (DX.out _ k ((hxr.grow hB').grow hG.b)).mono ?_); rintro e w4 ⟨rfl, hb2⟩; rw [hp'.out]
            replace hG := Grew.trans hG hb2
            (try dsimp only)
            (with_reducible refine hK _ _ hG ?_)
            clear hK K
            (repeat ((first | (with_reducible refine ord_q1 ?_) | (with_reducible refine ord_q0 ?_)); intro K hK; first | (refine Or.inr ⟨?_, ?_⟩; (focus (go_simp; first | done | (simp [undef]; done))); go_simp; (with_reducible refine hK _ ?_); clear hK K) | (refine Or.inl ⟨?_, ?_⟩; (focus (go_simp; done)); apply Exists.intro; refine And.intro ?_ ?_; (focus (first | (intro wq hq; obtain ⟨hcq, hfq⟩ := G.old hq; go_simp; (first | done | exact rfl); done) | (intro wq; go_simp; (first | done | exact rfl); done))); go_simp; (with_reducible refine hK _ ?_); clear hK K) | fail))
            (with_reducible refine ord_run ?_ hG)
            intro K hK
            go_simp
            go_at_call 47; (with_reducible refine (DY.out _ k ((hyr.grow hB').grow hG.b)).mono ?_); rintro e w5 ⟨rfl, hb3⟩; rw [hq'.out]
            replace hG := Grew.trans hG hb3
            (try dsimp only)
            (with_reducible refine hK _ _ hG ?_)
            clear hK K
            (repeat ((first | (with_reducible refine ord_q1 ?_) | (with_reducible refine ord_q0 ?_)); intro K hK; first | (refine Or.inr ⟨?_, ?_⟩; (focus (go_simp; first | done | (simp [undef]; done))); go_simp; (with_reducible refine hK _ ?_); clear hK K) | (refine Or.inl ⟨?_, ?_⟩; (focus (go_simp; done)); apply Exists.intro; refine And.intro ?_ ?_; (focus (first | (intro wq hq; obtain ⟨hcq, hfq⟩ := G.old hq; go_simp; (first | done | exact rfl); done) | (intro wq; go_simp; (first | done | exact rfl); done))); go_simp; (with_reducible refine hK _ ?_); clear hK K) | fail))
            (with_reducible refine ord_nil ?_)
            replace hB := G.trans hB hG.b
            by_cases h2 : q < p
            · have hr := Lib.hid (st2'.out h2)
              go_wp2_with fail
              go_ret
              exact ⟨ret_i hr.out.symm, G.trans hb1 hB⟩
            · have hr := Lib.hid (st3'.out h1 (by omega))
              go_wp2_with fail
              go_roundw
              case rel => exact ⟨(k : Int) - 1, by omega, by omega, by go_num, by rw [show ((k : Int) - 1 + 1).toNat = k by omega]; exact hr, hB⟩
              case measure => first | (simp [intOf]; done) | (simp [intOf]; omega)
        · have hr : Hid (cmpI (valD xs) (valD ys) = 0) := by
            have h0 : v = -1 := by omega
            have := hv.out
            rw [h0] at this
            simp at this
            exact cmpI_zero.2 this
          go_wp2_with fail
          go_ret
          exact ⟨ret_i hr.out.symm, G.trans hb1 hbr⟩
    · have hc2 : ¬ (M : Int) ≤ (n : Int) := by omega
      go_enter Tryd.func46, Tryd.ntmps46
      go_wp2_with fail
      refine wp_name (fun w1 => Below w.heap.size w w1 ∧ w1.cell? ⟨w.heap.size, 0, none⟩ = some (.int .i64 s) ∧ w1.cell? ⟨w.heap.size, 1, none⟩ = some (.slice A n c) ∧ w1.cell? ⟨w.heap.size + 1, 0, none⟩ = some (.int .i64 t) ∧ w1.cell? ⟨w.heap.size + 1, 1, none⟩ = some (.slice B M d)) ⟨by repeat (first | with_reducible assumption | with_reducible exact G.refl _ | with_reducible refine G.drew ?_ | with_reducible refine G.drewN ?_ _ | with_reducible refine G.alloc ?_ _ | with_reducible refine Below.setCell ?_ (by first | (simp; done) | (simp; omega)) _ | with_reducible refine G.trans ?_ hb12 | with_reducible refine G.trans ?_ hb11 | with_reducible refine G.trans ?_ hb10 | with_reducible refine G.trans ?_ hb9 | with_reducible refine G.trans ?_ hb8 | with_reducible refine G.trans ?_ hb7 | with_reducible refine G.trans ?_ hb6 | with_reducible refine G.trans ?_ hb5 | with_reducible refine G.trans ?_ hb4 | with_reducible refine G.trans ?_ hb3 | with_reducible refine G.trans ?_ hb2 | with_reducible refine G.trans ?_ hb1 | with_reducible refine G.trans ?_ hb | assumption), by go_simp, by go_simp, by go_simp, by go_simp⟩ ?_
      rintro w1 ⟨hb1, k0, k1, k2, k3⟩
      have lt0 := cell_lt k0
      have lt2 := cell_lt k2
      have hx1 := hx.grow hb1
      have hy1 := hy.grow hb1
      have DX := Lib.hid (fun w k hq => digit_any s A n c xs k w hq (by unfold maxLen; omega))
      have DY := Lib.hid (fun w k hq => digit_any t B M d ys k w hq (by unfold maxLen; omega))
      clear hx hy
      go_loopw [5] (fun i wr => ∃ v : Int, -1 ≤ v ∧ v < M ∧ i = .int .i64 v ∧ Hid (valD (xs.drop (v + 1).toNat) = valD (ys.drop (v + 1).toNat)) ∧ Below w1.heap.size w1 wr) (fun i _ => (intOf i + 1).toNat)
      case atStart => exact ⟨(M : Int) - 1, by omega, by omega, rfl, by rw [show ((M : Int) - 1 + 1).toNat = M by omega]; exact hstart, G.refl _⟩
      case round =>
        obtain ⟨v, hv0, hvM, rfl, hv, hbr⟩ := hrel
        by_cases hv1 : 0 ≤ v
        · obtain ⟨k, rfl⟩ : ∃ k : Nat, v = k := ⟨v.toNat, by omega⟩
          rw [show ((k : Int) + 1).toNat = k + 1 by omega] at hv
          obtain ⟨st1, st2, st3⟩ := cmp_step HX.out HY.out hv.out
          have st1' := Lib.hid st1
          have st2' := Lib.hid st2
          have st3' := Lib.hid st3
          clear st1 st2 st3 hv
          have hxr := hx1.grow hbr
          have hyr := hy1.grow hbr
          generalize hp : dg xs k = p at *
          generalize hq : dg ys k = q at *
          have hp' := Lib.hid hp
          have hq' := Lib.hid hq
          clear hp hq
          obtain ⟨hcr, hfr⟩ := G.old hbr
          replace k0 := G.cell k0 hbr
          replace k1 := G.cell k1 hbr
          replace k2 := G.cell k2 hbr
          replace k3 := G.cell k3 hbr
          replace lt0 := cell_lt k0
          replace lt2 := cell_lt k2
          clear hcr hfr
          go_wp2_with fail
          refine wp_region_ord [(0, 1), (1, 1), (3, 1), (4, 1), (2, 2), (5, 2), (6, 1)] [] 5 (by kernel_rfl) (by decide +kernel) ?_
          simp only [pickO, List.getElem?_cons_succ, List.getElem?_cons_zero]
          intro w0 hG
          (repeat ((first | (with_reducible refine ord_q1 ?_) | (with_reducible refine ord_q0 ?_)); intro K hK; first | (refine Or.inr ⟨?_, ?_⟩; (focus (go_simp; first | done | (simp [undef]; done))); go_simp; (with_reducible refine hK _ ?_); clear hK K) | (refine Or.inl ⟨?_, ?_⟩; (focus (go_simp; done)); apply Exists.intro; refine And.intro ?_ ?_; (focus (first | (intro wq hq; obtain ⟨hcq, hfq⟩ := G.old hq; go_simp; (first | done | exact rfl); done) | (intro wq; go_simp; (first | done | exact rfl); done))); go_simp; (with_reducible refine hK _ ?_); clear hK K) | fail))
          (with_reducible refine ord_run ?_ hG)
          intro K hK
          go_simp
          go_at_call 47; (with_reducible refine (DX.out _ k (hxr.grow hG.b)).mono ?_); rintro e w2 ⟨rfl, hb2⟩; rw [hp'.out]
          replace hG := Grew.trans hG hb2
          (try dsimp only)
          (with_reducible refine hK _ _ hG ?_)
          clear hK K
          (repeat ((first | (with_reducible refine ord_q1 ?_) | (with_reducible refine ord_q0 ?_)); intro K hK; first | (refine Or.inr ⟨?_, ?_⟩; (focus (go_simp; first | done | (simp [undef]; done))); go_simp; (with_reducible refine hK _ ?_); clear hK K) | (refine Or.inl ⟨?_, ?_⟩; (focus (go_simp; done)); apply Exists.intro; refine And.intro ?_ ?_; (focus (first | (intro wq hq; obtain ⟨hcq, hfq⟩ := G.old hq; go_simp; (first | done | exact rfl); done) | (intro wq; go_simp; (first | done | exact rfl); done))); go_simp; (with_reducible refine hK _ ?_); clear hK K) | fail))
          (with_reducible refine ord_run ?_ hG)
          intro K hK
          go_simp
          go_at_call 47; (with_reducible refine (DY.out _ k (hyr.grow hG.b)).mono ?_); rintro e w3 ⟨rfl, hb3⟩; rw [hq'.out]
          replace hG := Grew.trans hG hb3
          (try dsimp only)
          (with_reducible refine hK _ _ hG ?_)
          clear hK K
          (repeat ((first | (with_reducible refine ord_q1 ?_) | (with_reducible refine ord_q0 ?_)); intro K hK; first | (refine Or.inr ⟨?_, ?_⟩; (focus (go_simp; first | done | (simp [undef]; done))); go_simp; (with_reducible refine hK _ ?_); clear hK K) | (refine Or.inl ⟨?_, ?_⟩; (focus (go_simp; done)); apply Exists.intro; refine And.intro ?_ ?_; (focus (first | (intro wq hq; obtain ⟨hcq, hfq⟩ := G.old hq; go_simp; (first | done | exact rfl); done) | (intro wq; go_simp; (first | done | exact rfl); done))); go_simp; (with_reducible refine hK _ ?_); clear hK K) | fail))
          (with_reducible refine ord_nil ?_)
          have hB := G.trans hbr hG.b
          have hB' := hG.b
          by_cases h1 : p < q
          · have hr := Lib.hid (st1'.out h1)
            go_wp2_with fail
            go_ret
            exact ⟨ret_i hr.out.symm, G.trans hb1 hB⟩
          · replace k0 := G.cell k0 hG.b
            replace k1 := G.cell k1 hG.b
            replace k2 := G.cell k2 hG.b
            replace k3 := G.cell k3 hG.b
            replace lt0 := cell_lt k0
            replace lt2 := cell_lt k2
            clear hG hb2 hb3
            go_wp2_with fail
            refine wp_region_ord [(0, 1), (1, 1), (3, 1), (4, 1), (2, 2), (5, 2), (6, 1)] [] 5 (by kernel_rfl) (by decide +kernel) ?_
            simp only [pickO, List.getElem?_cons_succ, List.getElem?_cons_zero]
            intro w0 hG
            (repeat ((first | (with_reducible refine ord_q1 ?_) | (with_reducible refine ord_q0 ?_)); intro K hK; first | (refine Or.inr ⟨?_, ?_⟩; (focus (go_simp; first | done | (simp [undef]; done))); go_simp; (with_reducible refine hK _ ?_); clear hK K) | (refine Or.inl ⟨?_, ?_⟩; (focus (go_simp; done)); apply Exists.intro; refine And.intro ?_ ?_; (focus (first | (intro wq hq; obtain ⟨hcq, hfq⟩ := G.old hq; go_simp; (first | done | exact rfl); done) | (intro wq; go_simp; (first | done | exact rfl); done))); go_simp; (with_reducible refine hK _ ?_); clear hK K) | fail))
            (with_reducible refine ord_run ?_ hG)
            intro K hK
            go_simp
            go_at_call 47; (with_reducible refine (DX.out _ k ((hxr.grow hB').grow hG.b)).mono ?_); rintro e w4 ⟨rfl, hb2⟩; rw [hp'.out]
            replace hG := Grew.trans hG hb2
            (try dsimp only)
            (with_reducible refine hK _ _ hG ?_)
            clear hK K
            (repeat ((first | (with_reducible refine ord_q1 ?_) | (with_reducible refine ord_q0 ?_)); intro K hK; first | (refine Or.inr ⟨?_, ?_⟩; (focus (go_simp; first | done | (simp [undef]; done))); go_simp; (with_reducible refine hK _ ?_); clear hK K) | (refine Or.inl ⟨?_, ?_⟩; (focus (go_simp; done)); apply Exists.intro; refine And.intro ?_ ?_; (focus (first | (intro wq hq; obtain ⟨hcq, hfq⟩ := G.old hq; go_simp; (first | done | exact rfl); done) | (intro wq; go_simp; (first | done | exact rfl); done))); go_simp; (with_reducible refine hK _ ?_); clear hK K) | fail))
            (with_reducible refine ord_run ?_ hG)
            intro K hK
            go_simp
            go_at_call 47; (with_reducible refine (DY.out _ k ((hyr.grow hB').grow hG.b)).mono ?_); rintro e w5 ⟨rfl, hb3⟩; rw [hq'.out]
            replace hG := Grew.trans hG hb3
            (try dsimp only)
            (with_reducible refine hK _ _ hG ?_)
            clear hK K
            (repeat ((first | (with_reducible refine ord_q1 ?_) | (with_reducible refine ord_q0 ?_)); intro K hK; first | (refine Or.inr ⟨?_, ?_⟩; (focus (go_simp; first | done | (simp [undef]; done))); go_simp; (with_reducible refine hK _ ?_); clear hK K) | (refine Or.inl ⟨?_, ?_⟩; (focus (go_simp; done)); apply Exists.intro; refine And.intro ?_ ?_; (focus (first | (intro wq hq; obtain ⟨hcq, hfq⟩ := G.old hq; go_simp; (first | done | exact rfl); done) | (intro wq; go_simp; (first | done | exact rfl); done))); go_simp; (with_reducible refine hK _ ?_); clear hK K) | fail))
            (with_reducible refine ord_nil ?_)
            replace hB := G.trans hB hG.b
            by_cases h2 : q < p
            · have hr := Lib.hid (st2'.out h2)
              go_wp2_with fail
              go_ret
              exact ⟨ret_i hr.out.symm, G.trans hb1 hB⟩
            · have hr := Lib.hid (st3'.out h1 (by omega))
              go_wp2_with fail
              go_roundw
              case rel => exact ⟨(k : Int) - 1, by omega, by omega, by go_num, by rw [show ((k : Int) - 1 + 1).toNat = k by omega]; exact hr, hB⟩
              case measure => first | (simp [intOf]; done) | (simp [intOf]; omega)
        · have hr : Hid (cmpI (valD xs) (valD ys) = 0) := by
            have h0 : v = -1 := by omega
            have := hv.out
            rw [h0] at this
            simp at this
            exact cmpI_zero.2 this
          go_wp2_with fail
          go_ret
          exact ⟨ret_i hr.out.symm, G.trans hb1 hbr⟩
  rcases Nat.lt_or_ge n m with h | h
  · exact body m hm (by omega) (by omega) (.inr ⟨h, rfl⟩)
  · exact body n hn (by omega) (by omega) (.inl ⟨h, rfl⟩)
end Go.Proofs.YtoipapcbngknfaaDoor
