/- What the reference's Div computes. -/
import Derived.Test.YtoipapcbngknfaaDoorRef10
import Derived.Test.YtoipapcbngknfaaDoorDiv2
import Derived.Test.YtoipapcbngknfaaDoorTree
import Derived.Deep.DeepCutAuto
namespace Go.Proofs.YtoipapcbngknfaaDoor
set_option linter.unusedVariables false
set_option linter.unnecessarySimpa false
set_option linter.unusedSimpArgs false
open Go.RowKit

theorem abs_mul {n P : Int} (hP : 0 < P) : ((n * P).natAbs : Int) = max n (-n) * P := by
  rcases Int.lt_or_le n 0 with h | h
  · have h1 : n * P < 0 := Int.mul_neg_of_neg_of_pos h hP
    rw [show max n (-n) = -n by omega, Int.neg_mul]
    omega
  · have h1 : 0 ≤ n * P := Int.mul_nonneg h (Int.le_of_lt hP)
    rw [show max n (-n) = n by omega]
    omega
theorem rnd_zero {Y : Int} (hY : 0 < Y) : rnd 0 Y = 0 := rnd_small (Int.le_refl _) (by omega)
theorem near_pos {n m P R : Int} (hP : 0 < P) (hR : 0 < R) (hm : 0 < m) : nearV (n * P) (m * R) = (if n < 0 ↔ m < 0 then 1 else -1) * rnd (max n (-n) * P) (max m (-m) * R) := by
  have hmR : 0 < m * R := Int.mul_pos hm hR
  unfold nearV
  rw [abs_mul hP, show max m (-m) = m by omega]
  rcases Int.lt_or_le n 0 with h | h
  · have h1 : n * P < 0 := Int.mul_neg_of_neg_of_pos h hP
    rw [if_pos h1, if_neg (by omega)]
    omega
  · have h1 : 0 ≤ n * P := Int.mul_nonneg h (Int.le_of_lt hP)
    rw [if_neg (by omega), if_pos (by omega)]
    omega
theorem near_neg {n m P R : Int} (hP : 0 < P) (hR : 0 < R) (hm : m < 0) : nearV (-(n * P)) (-(m * R)) = (if n < 0 ↔ m < 0 then 1 else -1) * rnd (max n (-n) * P) (max m (-m) * R) := by
  unfold nearV
  rw [Int.natAbs_neg, abs_mul hP, show max m (-m) = -m by omega, ← Int.neg_mul m R]
  have hmR : 0 < -m * R := Int.mul_pos (by omega) hR
  rcases Int.lt_trichotomy n 0 with h | h | h
  · have h1 : n * P < 0 := Int.mul_neg_of_neg_of_pos h hP
    rw [if_neg (by omega), if_pos (by omega)]
    omega
  · subst h
    simp [rnd_zero hmR]
  · have h1 : 0 < n * P := Int.mul_pos h hP
    rw [if_pos (by omega), if_neg (by omega)]
    omega
theorem digs_wide {n : Int} {q : Nat} (h0 : -999999999999999 ≤ n) (h1 : n ≤ 999999999999999) (hq : q ≤ 24) : (digs (n * p10 q).natAbs).length ≤ 100 := by
  refine Nat.le_trans (len_digs_le (k := 39) ?_) (by omega)
  have h2 : p10 q ≤ 1000000000000000000000000 := by have := p10_mono hq; rwa [show p10 24 = 1000000000000000000000000 by decide] at this
  have h3 := p10_pos q
  rw [Int.natAbs_mul]
  have h4 : n.natAbs * (p10 q).natAbs ≤ 999999999999999 * 1000000000000000000000000 := Nat.mul_le_mul (by omega) (by omega)
  exact Nat.lt_of_le_of_lt h4 (by decide)
/-- The slice does not lie in the block X. -/
def Off (A : Option Addr) (n X : Nat) : Prop := 0 < n → ∀ ad, A = some ad → ad.block ≠ X
theorem Off.abv {A : Option Addr} {n X N : Nat} (h : Abv N A) (hX : X < N) : Off A n X := fun _ ad e => by have := h ad e; omega
theorem Off.wd {w : World} {A : Option Addr} {n c X : Nat} {z : Int} (h : Wd w A n c z) (hX : w.heap.size ≤ X) : Off A n X := fun hn ad e => by
  obtain ⟨b, off, e', hb, _⟩ := h.1.2 hn
  rw [e] at e'
  injection e' with e'
  subst e'
  show b ≠ X
  omega
theorem Wd.off {w : World} {A : Option Addr} {n c : Nat} {z : Int} (h : Wd w A n c z) {X i : Nat} (ho : Off A n X) (u : Value) : Wd (w.setCell ⟨X, i, none⟩ u) A n c z := by
  refine ⟨⟨h.1.1, fun hn => ?_⟩, h.2⟩
  obtain ⟨b, off, e, hl, hc⟩ := h.1.2 hn
  have hne : b ≠ X := ho hn _ e
  refine ⟨b, off, e, by simpa [World.setCell] using hl, fun j v hv => ?_⟩
  rw [World.cell?_setCell_other _ _ _ _ (fun e' => hne (by injection e' with e'; exact e'.symm))]
  exact hc j v hv
theorem Wd.alloc {w : World} {A : Option Addr} {n c : Nat} {z : Int} (h : Wd w A n c z) (o : Obj) : Wd (w.alloc o) A n c z := h.grow (G.alloc (G.refl w) o)

/-- The block that a variable's fact names. -/
theorem off_box {w : World} {X : Nat} {u v : Value} (hB : Box2 w X u v) {A : Option Addr} {n : Nat} (h : Off A n X) : Off A n X := h
/-- A new variable: the world behind a name. -/
theorem name_alloc2 {K : Act → World → Prop} {a : Act} {W : World} {u v : Value} {t : TypeId} (h : ∀ wX, Below W.heap.size W wX → Box2 wX W.heap.size u v → W.heap.size + 1 ≤ wX.heap.size → K a wX) : K a (W.alloc (.cells #[u, v] t)) :=
  h _ (G.alloc (G.refl W) _) (Box2.new rfl) (by simp)
/-- What a store to a variable of two cells asks for. -/
theorem with_box {P : Program} {ops : Array Oper} {o : Oper} {a : Act} {W : World} {K : Act → World → Prop} {Q : Exit → Act → World → Prop} {E : Prop} {X : Nat} {u v : Value} (p : Nat) (hp : a.eval (.tmp p) = .pointer (some ⟨X, 0, none⟩)) (hB : Box2 W X u v)
    (h : (W.cell? ⟨X, 0, none⟩ = some u ∧ W.cell? ⟨X, 1, none⟩ = some v ∧ W.frozen? ⟨X, 0, none⟩ = false ∧ W.frozen? ⟨X, 1, none⟩ = false ∧ X < W.heap.size) → (if Region.wanted o (yielded ops a.tmps) = true then o.wp P a W K Q else E)) :
    (if Region.wanted o (yielded ops a.tmps) = true then o.wp P a W K Q else E) := h ⟨hB.1, hB.2.1, hB.2.2.1, hB.2.2.2, hB.lt⟩
set_option maxRecDepth 20000 in set_option maxHeartbeats 400000 in
theorem refdiv_bad (n s m t sc : Int) (w : World) (hbad : ¬ (okN n s = true ∧ okN m t = true ∧ 0 ≤ sc ∧ sc ≤ 12)) :
    Calls Tryd.prog 15 #[.agg #[.int .i64 n, .int .i64 s], .agg #[.int .i64 m, .int .i64 t], .int .i64 sc] w (RetF (divN n s m t sc) w) := by
  have hr : Hid (divN n s m t sc = (0, 0, 2)) := if_neg hbad
  have I1 := fun w => is_any n s w
  have I2 := fun w => is_any m t w
  generalize okN n s = p at *
  generalize okN m t = q at *
  replace I1 := Lib.hid I1
  replace I2 := Lib.hid I2
  cases p
  · clear hbad
    go_enter Tryd.func15, Tryd.ntmps15
    go_wp2_with fail
    refine (I1.out _).mono ?_
    rintro e w1 ⟨rfl, hb⟩
    
    replace k0 := G.cell (a := ⟨w.heap.size + 1 + 1, 0, none⟩) (v := .int .i64 0) (by go_simp) hb
    replace k1 := G.cell (a := ⟨w.heap.size + 1 + 1, 1, none⟩) (v := .int .i64 0) (by go_simp) hb
    replace lt0 := cell_lt k0
    replace lt1 := cell_lt k1
    obtain ⟨hc, hf⟩ := G.old hb
    have z0 : w1.frozen? ⟨w.heap.size + 1 + 1, 0, none⟩ = false := (hf _ _ (by simp)).trans (by go_simp)
    have z1 : w1.frozen? ⟨w.heap.size + 1 + 1, 1, none⟩ = false := (hf _ _ (by simp)).trans (by go_simp)
    go_wp2_with fail
    exact bodyPost_ret (v := .tuple #[.agg #[.int .i64 0, .int .i64 0], .int .i64 2]) (by simp only [results, Tryd.results15]; go_simp) rfl ⟨by rw [hr.out], by repeat (first | with_reducible assumption | with_reducible exact G.refl _ | with_reducible refine G.drew ?_ | with_reducible refine G.drewN ?_ _ | with_reducible refine G.alloc ?_ _ | with_reducible refine Below.setCell ?_ (by first | (simp; done) | (simp; omega)) _ | with_reducible refine G.trans ?_ hb12 | with_reducible refine G.trans ?_ hb11 | with_reducible refine G.trans ?_ hb10 | with_reducible refine G.trans ?_ hb9 | with_reducible refine G.trans ?_ hb8 | with_reducible refine G.trans ?_ hb7 | with_reducible refine G.trans ?_ hb6 | with_reducible refine G.trans ?_ hb5 | with_reducible refine G.trans ?_ hb4 | with_reducible refine G.trans ?_ hb3 | with_reducible refine G.trans ?_ hb2 | with_reducible refine G.trans ?_ hb1 | with_reducible refine G.trans ?_ hb | assumption)⟩
  · have hcase : q = false ∨ (q = true ∧ sc < 0) ∨ (q = true ∧ 12 < sc) := by
      cases q
      · exact .inl rfl
      · have : ¬ (0 ≤ sc ∧ sc ≤ 12) := fun h => hbad ⟨rfl, rfl, h⟩
        by_cases h : sc < 0
        · exact .inr (.inl ⟨rfl, h⟩)
        · exact .inr (.inr ⟨rfl, by omega⟩)
    clear hbad
    rcases hcase with rfl | ⟨rfl, hsc⟩ | ⟨rfl, hsc⟩
    all_goals
      go_enter Tryd.func15, Tryd.ntmps15
      go_wp2_with fail
      refine (I1.out _).mono ?_
      rintro e w1 ⟨rfl, hb⟩
      
      replace k0 := G.cell (a := ⟨w.heap.size + 1, 0, none⟩) (v := .int .i64 m) (by go_simp) hb
      replace k1 := G.cell (a := ⟨w.heap.size + 1, 1, none⟩) (v := .int .i64 t) (by go_simp) hb
      replace k2 := G.cell (a := ⟨w.heap.size + 1 + 1, 0, none⟩) (v := .int .i64 0) (by go_simp) hb
      replace k3 := G.cell (a := ⟨w.heap.size + 1 + 1, 1, none⟩) (v := .int .i64 0) (by go_simp) hb
      replace lt0 := cell_lt k0
      replace lt1 := cell_lt k1
      replace lt2 := cell_lt k2
      replace lt3 := cell_lt k3
      obtain ⟨hc, hf⟩ := G.old hb
      have z0 : w1.frozen? ⟨w.heap.size + 1 + 1, 0, none⟩ = false := (hf _ _ (by simp)).trans (by go_simp)
      have z1 : w1.frozen? ⟨w.heap.size + 1 + 1, 1, none⟩ = false := (hf _ _ (by simp)).trans (by go_simp)
      have hbx : Box2 w1 (w.heap.size + 1 + 1) (.int .i64 0) (.int .i64 0) := ⟨k2, k3, z0, z1⟩
      have hbw : Below w.heap.size w w1 := by repeat (first | with_reducible assumption | with_reducible exact G.refl _ | with_reducible refine G.drew ?_ | with_reducible refine G.drewN ?_ _ | with_reducible refine G.alloc ?_ _ | with_reducible refine Below.setCell ?_ (by first | (simp; done) | (simp; omega)) _ | with_reducible refine G.trans ?_ hb12 | with_reducible refine G.trans ?_ hb11 | with_reducible refine G.trans ?_ hb10 | with_reducible refine G.trans ?_ hb9 | with_reducible refine G.trans ?_ hb8 | with_reducible refine G.trans ?_ hb7 | with_reducible refine G.trans ?_ hb6 | with_reducible refine G.trans ?_ hb5 | with_reducible refine G.trans ?_ hb4 | with_reducible refine G.trans ?_ hb3 | with_reducible refine G.trans ?_ hb2 | with_reducible refine G.trans ?_ hb1 | with_reducible refine G.trans ?_ hb | assumption)
      clear hc hf
      go_wp2_with fail
      refine (I2.out _).mono ?_
      rintro e w2 ⟨rfl, hb2⟩
      obtain ⟨r1, r2, r3, r4⟩ := hbx.grow hb2
      have ltR := cell_lt r1
      go_wp2_with fail
      exact bodyPost_ret (v := .tuple #[.agg #[.int .i64 0, .int .i64 0], .int .i64 2]) (by simp only [results, Tryd.results15]; go_simp) rfl ⟨by rw [hr.out], ((G.trans hbw hb2).setCell (by simp; omega) _).setCell (by simp; omega) _⟩
set_option maxRecDepth 20000 in set_option maxHeartbeats 400000 in
theorem refdiv_zero (n : Int) (s t sc : Int) (w : World) (h1 : okN n s = true) (h2 : okN 0 t = true) (hs0 : 0 ≤ sc) (hs1 : sc ≤ 12) :
    Calls Tryd.prog 15 #[.agg #[.int .i64 n, .int .i64 s], .agg #[.int .i64 0, .int .i64 t], .int .i64 sc] w (RetF (divN n s 0 t sc) w) := by
  have hr : Hid (divN n s 0 t sc = (0, 0, 15)) := by unfold Hid divN; rw [if_pos ⟨h1, h2, hs0, hs1⟩, if_pos rfl]
  have I1 := Lib.hid (fun w => is_any n s w)
  have I2 := Lib.hid (fun w => is_any 0 t w)
  rw [h1] at I1
  rw [h2] at I2
  clear h1 h2
  go_enter Tryd.func15, Tryd.ntmps15
  go_wp2_with fail
  refine (I1.out _).mono ?_
  rintro e w1 ⟨rfl, hb⟩
  
  replace k0 := G.cell (a := ⟨w.heap.size + 1, 0, none⟩) (v := .int .i64 0) (by go_simp) hb
  replace k1 := G.cell (a := ⟨w.heap.size + 1, 1, none⟩) (v := .int .i64 t) (by go_simp) hb
  replace k2 := G.cell (a := ⟨w.heap.size + 1 + 1, 0, none⟩) (v := .int .i64 0) (by go_simp) hb
  replace k3 := G.cell (a := ⟨w.heap.size + 1 + 1, 1, none⟩) (v := .int .i64 0) (by go_simp) hb
  replace lt0 := cell_lt k0
  replace lt1 := cell_lt k1
  replace lt2 := cell_lt k2
  replace lt3 := cell_lt k3
  obtain ⟨hc, hf⟩ := G.old hb
  have z0 : w1.frozen? ⟨w.heap.size + 1 + 1, 0, none⟩ = false := (hf _ _ (by simp)).trans (by go_simp)
  have z1 : w1.frozen? ⟨w.heap.size + 1 + 1, 1, none⟩ = false := (hf _ _ (by simp)).trans (by go_simp)
  have hbx : Box2 w1 (w.heap.size + 1 + 1) (.int .i64 0) (.int .i64 0) := ⟨k2, k3, z0, z1⟩
  have hbw : Below w.heap.size w w1 := by repeat (first | with_reducible assumption | with_reducible exact G.refl _ | with_reducible refine G.drew ?_ | with_reducible refine G.drewN ?_ _ | with_reducible refine G.alloc ?_ _ | with_reducible refine Below.setCell ?_ (by first | (simp; done) | (simp; omega)) _ | with_reducible refine G.trans ?_ hb12 | with_reducible refine G.trans ?_ hb11 | with_reducible refine G.trans ?_ hb10 | with_reducible refine G.trans ?_ hb9 | with_reducible refine G.trans ?_ hb8 | with_reducible refine G.trans ?_ hb7 | with_reducible refine G.trans ?_ hb6 | with_reducible refine G.trans ?_ hb5 | with_reducible refine G.trans ?_ hb4 | with_reducible refine G.trans ?_ hb3 | with_reducible refine G.trans ?_ hb2 | with_reducible refine G.trans ?_ hb1 | with_reducible refine G.trans ?_ hb | assumption)
  clear hc hf
  go_wp2_with fail
  refine (I2.out _).mono ?_
  rintro e w2 ⟨rfl, hb2⟩
  replace k0 := G.cell (a := ⟨w.heap.size + 1, 0, none⟩) (v := .int .i64 0) (by go_simp) hb2
  replace k1 := G.cell (a := ⟨w.heap.size + 1, 1, none⟩) (v := .int .i64 t) (by go_simp) hb2
  replace k2 := G.cell (a := ⟨w.heap.size + 1 + 1, 0, none⟩) (v := .int .i64 0) (by go_simp) hb2
  replace k3 := G.cell (a := ⟨w.heap.size + 1 + 1, 1, none⟩) (v := .int .i64 0) (by go_simp) hb2
  replace lt0 := cell_lt k0
  replace lt1 := cell_lt k1
  replace lt2 := cell_lt k2
  replace lt3 := cell_lt k3
  obtain ⟨r1, r2, r3, r4⟩ := hbx.grow hb2
  have ltR := cell_lt r1
  go_wp2_with fail
  exact bodyPost_ret (v := .tuple #[.agg #[.int .i64 0, .int .i64 0], .int .i64 15]) (by simp only [results, Tryd.results15]; go_simp) rfl ⟨by rw [hr.out], ((G.trans hbw hb2).setCell (by simp; omega) _).setCell (by simp; omega) _⟩

set_option maxRecDepth 20000 in set_option maxHeartbeats 2000000 in
theorem refdiv_ok (n m : Int) (j i q : Nat) (w : World) (h1 : okN n j = true) (h2 : okN m i = true) (hq : q ≤ 12) (hm0 : m ≠ 0) :
    Calls Tryd.prog 15 #[.agg #[.int .i64 n, .int .i64 j], .agg #[.int .i64 m, .int .i64 i], .int .i64 q] w (RetF (divN n j m i q) w) := by
  have I1 := Lib.hid (fun w => is_any n j w)
  have I2 := Lib.hid (fun w => is_any m i w)
  rw [h1] at I1
  rw [h2] at I2
  have o1 := okN_iff.1 h1
  have o2 := okN_iff.1 h2
  have hr : divN n j m i q = fitN (quoV n j m i q) q := by
    unfold divN
    rw [if_pos ⟨h1, h2, by omega, by omega⟩, if_neg hm0]
    simp only [Int.toNat_natCast]
  have P1 := (fun w => of_any n (i + q) w (by omega) (by omega) (by omega))
  simp only [Int.natCast_add] at P1
  replace P1 := Lib.hid P1
  have P2 := Lib.hid (fun w => of_any m j w (by omega) (by omega) (by omega))
  have l1 := digs_wide (q := i + q) o1.1 o1.2.1 (by omega)
  have l2 := digs_wide (q := j) o2.1 o2.2.1 (by omega)
  have FT := fun A n' c w hx => fitW_any (quoV n j m i q) A n' c q w hx (by omega)
  rw [show fitW (quoV n j m i q) q = divN n j m i q by rw [hr]; exact if_pos hq] at FT
  replace FT := Lib.hid FT
  have hm1 : m < 0 ↔ m * p10 j < 0 := by
    have hp := p10_pos j
    constructor
    · intro h; exact Int.mul_neg_of_neg_of_pos h hp
    · intro h
      rcases Int.lt_or_le m 0 with h' | h'
      · exact h'
      · have := Int.mul_nonneg h' (Int.le_of_lt hp); omega
  have hm2 : m * p10 j ≠ 0 := fun h => by
    rcases Int.mul_eq_zero.1 h with h | h
    · exact hm0 h
    · have := p10_pos j; omega
  have hq1 : m * p10 j < 0 → nearV (-(n * p10 (i + q))) (-(m * p10 j)) = quoV n j m i q := fun h => near_neg (p10_pos _) (p10_pos _) (hm1.2 h)
  have hq2 : ¬ m * p10 j < 0 → nearV (n * p10 (i + q)) (m * p10 j) = quoV n j m i q := fun h => near_pos (p10_pos _) (p10_pos _) (by have : ¬ m < 0 := fun h' => h (hm1.1 h'); omega)
  have hsum : IntKind.i64.wrap ((i : Int) + (q : Int)) = (i : Int) + (q : Int) := IntWalk.i64_in _ (by omega)
  have hmb : (m == 0) = false := by simp [hm0]
  generalize n * p10 (i + q) = Z1 at *
  generalize m * p10 j = Z2 at *
  generalize quoV n j m i q = qv at *
  generalize divN n j m i q = p at *
  clear hr hm1 h1 h2 o1 o2
  replace l1 := Lib.hid l1
  replace l2 := Lib.hid l2
  replace hq1 := Lib.hid hq1
  replace hq2 := Lib.hid hq2
  go_enter Tryd.func15, Tryd.ntmps15
  go_wp2_with fail
  refine (I1.out _).mono ?_
  rintro e w1 ⟨rfl, hb⟩
  
  replace k0 := G.cell (a := ⟨w.heap.size, 0, none⟩) (v := .int .i64 n) (by go_simp) hb
  replace k1 := G.cell (a := ⟨w.heap.size, 1, none⟩) (v := .int .i64 j) (by go_simp) hb
  replace k2 := G.cell (a := ⟨w.heap.size + 1, 0, none⟩) (v := .int .i64 m) (by go_simp) hb
  replace k3 := G.cell (a := ⟨w.heap.size + 1, 1, none⟩) (v := .int .i64 i) (by go_simp) hb
  replace k4 := G.cell (a := ⟨w.heap.size + 1 + 1, 0, none⟩) (v := .int .i64 0) (by go_simp) hb
  replace k5 := G.cell (a := ⟨w.heap.size + 1 + 1, 1, none⟩) (v := .int .i64 0) (by go_simp) hb
  replace lt0 := cell_lt k0
  replace lt1 := cell_lt k1
  replace lt2 := cell_lt k2
  replace lt3 := cell_lt k3
  replace lt4 := cell_lt k4
  replace lt5 := cell_lt k5
  obtain ⟨hc, hf⟩ := G.old hb
  have z0 : w1.frozen? ⟨w.heap.size + 1 + 1, 0, none⟩ = false := (hf _ _ (by simp)).trans (by go_simp)
  have z1 : w1.frozen? ⟨w.heap.size + 1 + 1, 1, none⟩ = false := (hf _ _ (by simp)).trans (by go_simp)
  have hbx : Box2 w1 (w.heap.size + 1 + 1) (.int .i64 0) (.int .i64 0) := ⟨k4, k5, z0, z1⟩
  have hbw : Below w.heap.size w w1 := by repeat (first | with_reducible assumption | with_reducible exact G.refl _ | with_reducible refine G.drew ?_ | with_reducible refine G.drewN ?_ _ | with_reducible refine G.alloc ?_ _ | with_reducible refine Below.setCell ?_ (by first | (simp; done) | (simp; omega)) _ | with_reducible refine G.trans ?_ hb12 | with_reducible refine G.trans ?_ hb11 | with_reducible refine G.trans ?_ hb10 | with_reducible refine G.trans ?_ hb9 | with_reducible refine G.trans ?_ hb8 | with_reducible refine G.trans ?_ hb7 | with_reducible refine G.trans ?_ hb6 | with_reducible refine G.trans ?_ hb5 | with_reducible refine G.trans ?_ hb4 | with_reducible refine G.trans ?_ hb3 | with_reducible refine G.trans ?_ hb2 | with_reducible refine G.trans ?_ hb1 | with_reducible refine G.trans ?_ hb | assumption)
  clear hc hf hb z0 z1
  go_wp2_with fail
  refine (I2.out _).mono ?_
  rintro e w2 ⟨rfl, hb2⟩
  replace k0 := G.cell (a := ⟨w.heap.size, 0, none⟩) (v := .int .i64 n) (by go_simp) hb2
  replace k1 := G.cell (a := ⟨w.heap.size, 1, none⟩) (v := .int .i64 j) (by go_simp) hb2
  replace k2 := G.cell (a := ⟨w.heap.size + 1, 0, none⟩) (v := .int .i64 m) (by go_simp) hb2
  replace k3 := G.cell (a := ⟨w.heap.size + 1, 1, none⟩) (v := .int .i64 i) (by go_simp) hb2
  replace k4 := G.cell (a := ⟨w.heap.size + 1 + 1, 0, none⟩) (v := .int .i64 0) (by go_simp) hb2
  replace k5 := G.cell (a := ⟨w.heap.size + 1 + 1, 1, none⟩) (v := .int .i64 0) (by go_simp) hb2
  replace lt0 := cell_lt k0
  replace lt1 := cell_lt k1
  replace lt2 := cell_lt k2
  replace lt3 := cell_lt k3
  replace lt4 := cell_lt k4
  replace lt5 := cell_lt k5
  replace hbx := hbx.grow hb2
  replace hbw := G.trans hbw hb2
  have ltr := hbx.lt
  clear hb2
  go_upto_region 5 with (fail)
  go_cut [8, 9] (fun px py wx => ∃ X Y A3 n3 c3 A4 n4 c4, px = .pointer (some ⟨X, 0, none⟩) ∧ py = .pointer (some ⟨Y, 0, none⟩) ∧ X ≠ Y ∧ w.heap.size + 1 + 1 < X ∧ w.heap.size + 1 + 1 < Y ∧ Box2 wx X (.int .i64 (sgn Z1)) (.slice A3 n3 c3) ∧ Box2 wx Y (.int .i64 (sgn Z2)) (.slice A4 n4 c4) ∧ Hid (Wd wx A3 n3 c3 Z1 ∧ Wd wx A4 n4 c4 Z2 ∧ Off A3 n3 X ∧ Off A3 n3 Y ∧ Off A4 n4 X ∧ Off A4 n4 Y) ∧ Below w.heap.size w wx ∧ Box2 wx (w.heap.size + 1 + 1) (.int .i64 0) (.int .i64 0))
  case first =>
    refine wp_region_tree (.quiet 0 1 (.quiet 1 1 (.quiet 2 1 (.quiet 3 1 (.quiet 4 1 (.quiet 5 1 (.quiet 7 1 (.quiet 8 1 (.quiet 9 1 (.quiet 10 1 (.run 6 2 (.run 11 2 (.run 12 2 (.run 13 2 (.run 14 3 (.run 15 3 .nil .stop) .stop) .stop) (.run 13 2 (.run 12 2 (.run 14 3 (.run 15 3 .nil .stop) .stop) .stop) .stop)) (.run 12 2 (.run 11 2 (.run 13 2 (.run 14 3 (.run 15 3 .nil .stop) .stop) .stop) (.run 13 2 (.run 11 2 (.run 14 3 (.run 15 3 .nil .stop) .stop) .stop) .stop)) (.run 13 2 (.run 11 2 (.run 12 2 (.run 14 3 (.run 15 3 .nil .stop) .stop) .stop) (.run 12 2 (.run 11 2 (.run 14 3 (.run 15 3 .nil .stop) .stop) .stop) .stop)) .stop))) (.run 12 2 (.run 6 2 (.run 11 2 (.run 13 2 (.run 14 3 (.run 15 3 .nil .stop) .stop) .stop) (.run 13 2 (.run 11 2 (.run 14 3 (.run 15 3 .nil .stop) .stop) .stop) .stop)) (.run 13 2 (.run 6 2 (.run 11 2 (.run 14 3 (.run 15 3 .nil .stop) .stop) .stop) .stop) .stop)) (.run 13 2 (.run 6 2 (.run 11 2 (.run 12 2 (.run 14 3 (.run 15 3 .nil .stop) .stop) .stop) (.run 12 2 (.run 11 2 (.run 14 3 (.run 15 3 .nil .stop) .stop) .stop) .stop)) (.run 12 2 (.run 6 2 (.run 11 2 (.run 14 3 (.run 15 3 .nil .stop) .stop) .stop) .stop) .stop)) .stop))))))))))))) [14, 15] 5 (by kernel_rfl) (by decide +kernel) ?_
    simp only [pickT, List.getElem?_cons_succ, List.getElem?_cons_zero]
    intro w0 hG
    have hG0 := hG.b
    have szG := hG0.size
    (try simp at szG)
    (repeat ((first | (with_reducible refine tree_q1 ?_) | (with_reducible refine tree_q0 ?_)); intro K hK; first | (refine Or.inr ⟨?_, ?_⟩; (focus (go_simp; first | done | (simp [undef]; done))); go_simp; (with_reducible refine hK _ ?_); clear hK K) | (refine Or.inl ⟨?_, ?_⟩; (focus (go_simp; done)); apply Exists.intro; refine And.intro ?_ ?_; (focus (first | (intro wq hq; obtain ⟨hcq, hfq⟩ := G.old hq; go_simp; (first | done | exact rfl); done) | (intro wq; go_simp; (first | done | exact rfl); done))); go_simp; (with_reducible refine hK _ ?_); clear hK K) | fail))
    (with_reducible refine tree_run hG ?_ ?_)
    · intro K hK
      go_simp
      go_at_call 23; (with_reducible refine (P1.out _).mono ?_); rintro e w3 ⟨A3, n3, c3, rfl, hw3, ha3, hb3⟩; have hs3 := hb3.size
      replace hG := Grew.trans hG hb3
      (try dsimp only)
      (with_reducible refine hK _ _ hG ?_)
      clear hK K
      (with_reducible refine tree_run hG ?_ ?_)
      · intro K hK
        go_simp
        go_at_call 23; (with_reducible refine (P2.out _).mono ?_); rintro e w4 ⟨A4, n4, c4, rfl, hw4, ha4, hb4⟩; have hs4 := hb4.size
        replace hG := Grew.trans hG hb4
        (try dsimp only)
        (with_reducible refine hK _ _ hG ?_)
        clear hK K
        (with_reducible refine tree_run hG ?_ ?_)
        · intro K hK
          go_simp
          (with_reducible refine name_alloc2 ?_); intro wX hb5 hBX hs5
          replace hG := Grew.trans hG hb5
          (try dsimp only)
          (with_reducible refine hK _ _ hG ?_)
          clear hK K
          (with_reducible refine tree_run hG ?_ ?_)
          · intro K hK
            go_simp
            (with_reducible refine name_alloc2 ?_); intro wY hb6 hBY hs6
            replace hG := Grew.trans hG hb6
            (try dsimp only)
            (with_reducible refine hK _ _ hG ?_)
            clear hK K
            (with_reducible refine tree_tail ?_ ?_)
            · intro K hK
              refine with_box (u := .int .i64 0) (v := .slice none 0 0) 8 rfl (by repeat (first | with_reducible assumption | with_reducible refine Box2.grow ?_ hb4 | with_reducible refine Box2.grow ?_ hb3 | with_reducible refine Box2.grow ?_ hb5 | with_reducible refine Box2.grow ?_ hb6 | with_reducible refine Box2.grow ?_ hb)) ?_; rintro ⟨q0, q1, q2, q3, q4⟩
              go_simp
              (with_reducible refine hK _ _ ?_)
              clear hK K
              (with_reducible refine tree_tail ?_ ?_)
              · intro K hK
                refine with_box (u := .int .i64 0) (v := .slice none 0 0) 9 rfl (Box2.other (Box2.other (by repeat (first | with_reducible assumption | with_reducible refine Box2.grow ?_ hb4 | with_reducible refine Box2.grow ?_ hb3 | with_reducible refine Box2.grow ?_ hb5 | with_reducible refine Box2.grow ?_ hb6 | with_reducible refine Box2.grow ?_ hb)) (by omega)) (by omega)) ?_; rintro ⟨y0, y1, y2, y3, y4⟩
                go_simp
                (with_reducible refine hK _ _ ?_)
                clear hK K
                (with_reducible refine tree_nil ?_)
                have hb := hG0
                have hB := G.trans hbw hG.b
                have o3X := off_box hBX (A := A3) (n := n3) (by first | exact Off.abv ha3 (by omega) | exact Off.wd hw3 (by omega))
                have o3Y := off_box hBY (A := A3) (n := n3) (by first | exact Off.abv ha3 (by omega) | exact Off.wd hw3 (by omega))
                have o4X := off_box hBX (A := A4) (n := n4) (by first | exact Off.abv ha4 (by omega) | exact Off.wd hw4 (by omega))
                have o4Y := off_box hBY (A := A4) (n := n4) (by first | exact Off.abv ha4 (by omega) | exact Off.wd hw4 (by omega))
                go_wp2_with fail
                go_meet
                exact ⟨_, _, A3, n3, c3, A4, n4, c4, rfl, rfl, by omega, by omega, by omega, Box2.other (Box2.other (Box2.set2 (u := .int .i64 0) (v := .slice none 0 0) (by repeat (first | with_reducible assumption | with_reducible refine Box2.grow ?_ hb4 | with_reducible refine Box2.grow ?_ hb3 | with_reducible refine Box2.grow ?_ hb5 | with_reducible refine Box2.grow ?_ hb6 | with_reducible refine Box2.grow ?_ hb))) (by omega)) (by omega), Box2.set2 (u := .int .i64 0) (v := .slice none 0 0) (Box2.other (Box2.other (by repeat (first | with_reducible assumption | with_reducible refine Box2.grow ?_ hb4 | with_reducible refine Box2.grow ?_ hb3 | with_reducible refine Box2.grow ?_ hb5 | with_reducible refine Box2.grow ?_ hb6 | with_reducible refine Box2.grow ?_ hb)) (by omega)) (by omega)), ⟨Wd.off (Wd.off (Wd.off (Wd.off (by repeat (first | with_reducible assumption | with_reducible refine Wd.grow ?_ hb4 | with_reducible refine Wd.grow ?_ hb3 | with_reducible refine Wd.grow ?_ hb5 | with_reducible refine Wd.grow ?_ hb6)) o3X _) o3X _) o3Y _) o3Y _, Wd.off (Wd.off (Wd.off (Wd.off (by repeat (first | with_reducible assumption | with_reducible refine Wd.grow ?_ hb4 | with_reducible refine Wd.grow ?_ hb3 | with_reducible refine Wd.grow ?_ hb5 | with_reducible refine Wd.grow ?_ hb6)) o4X _) o4X _) o4Y _) o4Y _, o3X, o3Y, o4X, o4Y⟩, (((hB.setCell (by first | (simp; done) | (simp; omega) | omega) _).setCell (by first | (simp; done) | (simp; omega) | omega) _).setCell (by first | (simp; done) | (simp; omega) | omega) _).setCell (by first | (simp; done) | (simp; omega) | omega) _, Box2.other (Box2.other (Box2.other (Box2.other (by repeat (first | with_reducible assumption | with_reducible refine Box2.grow ?_ hb4 | with_reducible refine Box2.grow ?_ hb3 | with_reducible refine Box2.grow ?_ hb5 | with_reducible refine Box2.grow ?_ hb6 | with_reducible refine Box2.grow ?_ hb)) (by omega)) (by omega)) (by omega)) (by omega)⟩
              exact tree_stop
            exact tree_stop
          exact tree_stop
        (with_reducible refine tree_run hG ?_ ?_)
        · intro K hK
          go_simp
          (with_reducible refine name_alloc2 ?_); intro wY hb6 hBY hs6
          replace hG := Grew.trans hG hb6
          (try dsimp only)
          (with_reducible refine hK _ _ hG ?_)
          clear hK K
          (with_reducible refine tree_run hG ?_ ?_)
          · intro K hK
            go_simp
            (with_reducible refine name_alloc2 ?_); intro wX hb5 hBX hs5
            replace hG := Grew.trans hG hb5
            (try dsimp only)
            (with_reducible refine hK _ _ hG ?_)
            clear hK K
            (with_reducible refine tree_tail ?_ ?_)
            · intro K hK
              refine with_box (u := .int .i64 0) (v := .slice none 0 0) 8 rfl (by repeat (first | with_reducible assumption | with_reducible refine Box2.grow ?_ hb4 | with_reducible refine Box2.grow ?_ hb3 | with_reducible refine Box2.grow ?_ hb5 | with_reducible refine Box2.grow ?_ hb6 | with_reducible refine Box2.grow ?_ hb)) ?_; rintro ⟨q0, q1, q2, q3, q4⟩
              go_simp
              (with_reducible refine hK _ _ ?_)
              clear hK K
              (with_reducible refine tree_tail ?_ ?_)
              · intro K hK
                refine with_box (u := .int .i64 0) (v := .slice none 0 0) 9 rfl (Box2.other (Box2.other (by repeat (first | with_reducible assumption | with_reducible refine Box2.grow ?_ hb4 | with_reducible refine Box2.grow ?_ hb3 | with_reducible refine Box2.grow ?_ hb5 | with_reducible refine Box2.grow ?_ hb6 | with_reducible refine Box2.grow ?_ hb)) (by omega)) (by omega)) ?_; rintro ⟨y0, y1, y2, y3, y4⟩
                go_simp
                (with_reducible refine hK _ _ ?_)
                clear hK K
                (with_reducible refine tree_nil ?_)
                have hb := hG0
                have hB := G.trans hbw hG.b
                have o3X := off_box hBX (A := A3) (n := n3) (by first | exact Off.abv ha3 (by omega) | exact Off.wd hw3 (by omega))
                have o3Y := off_box hBY (A := A3) (n := n3) (by first | exact Off.abv ha3 (by omega) | exact Off.wd hw3 (by omega))
                have o4X := off_box hBX (A := A4) (n := n4) (by first | exact Off.abv ha4 (by omega) | exact Off.wd hw4 (by omega))
                have o4Y := off_box hBY (A := A4) (n := n4) (by first | exact Off.abv ha4 (by omega) | exact Off.wd hw4 (by omega))
                go_wp2_with fail
                go_meet
                exact ⟨_, _, A3, n3, c3, A4, n4, c4, rfl, rfl, by omega, by omega, by omega, Box2.other (Box2.other (Box2.set2 (u := .int .i64 0) (v := .slice none 0 0) (by repeat (first | with_reducible assumption | with_reducible refine Box2.grow ?_ hb4 | with_reducible refine Box2.grow ?_ hb3 | with_reducible refine Box2.grow ?_ hb5 | with_reducible refine Box2.grow ?_ hb6 | with_reducible refine Box2.grow ?_ hb))) (by omega)) (by omega), Box2.set2 (u := .int .i64 0) (v := .slice none 0 0) (Box2.other (Box2.other (by repeat (first | with_reducible assumption | with_reducible refine Box2.grow ?_ hb4 | with_reducible refine Box2.grow ?_ hb3 | with_reducible refine Box2.grow ?_ hb5 | with_reducible refine Box2.grow ?_ hb6 | with_reducible refine Box2.grow ?_ hb)) (by omega)) (by omega)), ⟨Wd.off (Wd.off (Wd.off (Wd.off (by repeat (first | with_reducible assumption | with_reducible refine Wd.grow ?_ hb4 | with_reducible refine Wd.grow ?_ hb3 | with_reducible refine Wd.grow ?_ hb5 | with_reducible refine Wd.grow ?_ hb6)) o3X _) o3X _) o3Y _) o3Y _, Wd.off (Wd.off (Wd.off (Wd.off (by repeat (first | with_reducible assumption | with_reducible refine Wd.grow ?_ hb4 | with_reducible refine Wd.grow ?_ hb3 | with_reducible refine Wd.grow ?_ hb5 | with_reducible refine Wd.grow ?_ hb6)) o4X _) o4X _) o4Y _) o4Y _, o3X, o3Y, o4X, o4Y⟩, (((hB.setCell (by first | (simp; done) | (simp; omega) | omega) _).setCell (by first | (simp; done) | (simp; omega) | omega) _).setCell (by first | (simp; done) | (simp; omega) | omega) _).setCell (by first | (simp; done) | (simp; omega) | omega) _, Box2.other (Box2.other (Box2.other (Box2.other (by repeat (first | with_reducible assumption | with_reducible refine Box2.grow ?_ hb4 | with_reducible refine Box2.grow ?_ hb3 | with_reducible refine Box2.grow ?_ hb5 | with_reducible refine Box2.grow ?_ hb6 | with_reducible refine Box2.grow ?_ hb)) (by omega)) (by omega)) (by omega)) (by omega)⟩
              exact tree_stop
            exact tree_stop
          exact tree_stop
        exact tree_stop
      (with_reducible refine tree_run hG ?_ ?_)
      · intro K hK
        go_simp
        (with_reducible refine name_alloc2 ?_); intro wX hb5 hBX hs5
        replace hG := Grew.trans hG hb5
        (try dsimp only)
        (with_reducible refine hK _ _ hG ?_)
        clear hK K
        (with_reducible refine tree_run hG ?_ ?_)
        · intro K hK
          go_simp
          go_at_call 23; (with_reducible refine (P2.out _).mono ?_); rintro e w4 ⟨A4, n4, c4, rfl, hw4, ha4, hb4⟩; have hs4 := hb4.size
          replace hG := Grew.trans hG hb4
          (try dsimp only)
          (with_reducible refine hK _ _ hG ?_)
          clear hK K
          (with_reducible refine tree_run hG ?_ ?_)
          · intro K hK
            go_simp
            (with_reducible refine name_alloc2 ?_); intro wY hb6 hBY hs6
            replace hG := Grew.trans hG hb6
            (try dsimp only)
            (with_reducible refine hK _ _ hG ?_)
            clear hK K
            (with_reducible refine tree_tail ?_ ?_)
            · intro K hK
              refine with_box (u := .int .i64 0) (v := .slice none 0 0) 8 rfl (by repeat (first | with_reducible assumption | with_reducible refine Box2.grow ?_ hb4 | with_reducible refine Box2.grow ?_ hb3 | with_reducible refine Box2.grow ?_ hb5 | with_reducible refine Box2.grow ?_ hb6 | with_reducible refine Box2.grow ?_ hb)) ?_; rintro ⟨q0, q1, q2, q3, q4⟩
              go_simp
              (with_reducible refine hK _ _ ?_)
              clear hK K
              (with_reducible refine tree_tail ?_ ?_)
              · intro K hK
                refine with_box (u := .int .i64 0) (v := .slice none 0 0) 9 rfl (Box2.other (Box2.other (by repeat (first | with_reducible assumption | with_reducible refine Box2.grow ?_ hb4 | with_reducible refine Box2.grow ?_ hb3 | with_reducible refine Box2.grow ?_ hb5 | with_reducible refine Box2.grow ?_ hb6 | with_reducible refine Box2.grow ?_ hb)) (by omega)) (by omega)) ?_; rintro ⟨y0, y1, y2, y3, y4⟩
                go_simp
                (with_reducible refine hK _ _ ?_)
                clear hK K
                (with_reducible refine tree_nil ?_)
                have hb := hG0
                have hB := G.trans hbw hG.b
                have o3X := off_box hBX (A := A3) (n := n3) (by first | exact Off.abv ha3 (by omega) | exact Off.wd hw3 (by omega))
                have o3Y := off_box hBY (A := A3) (n := n3) (by first | exact Off.abv ha3 (by omega) | exact Off.wd hw3 (by omega))
                have o4X := off_box hBX (A := A4) (n := n4) (by first | exact Off.abv ha4 (by omega) | exact Off.wd hw4 (by omega))
                have o4Y := off_box hBY (A := A4) (n := n4) (by first | exact Off.abv ha4 (by omega) | exact Off.wd hw4 (by omega))
                go_wp2_with fail
                go_meet
                exact ⟨_, _, A3, n3, c3, A4, n4, c4, rfl, rfl, by omega, by omega, by omega, Box2.other (Box2.other (Box2.set2 (u := .int .i64 0) (v := .slice none 0 0) (by repeat (first | with_reducible assumption | with_reducible refine Box2.grow ?_ hb4 | with_reducible refine Box2.grow ?_ hb3 | with_reducible refine Box2.grow ?_ hb5 | with_reducible refine Box2.grow ?_ hb6 | with_reducible refine Box2.grow ?_ hb))) (by omega)) (by omega), Box2.set2 (u := .int .i64 0) (v := .slice none 0 0) (Box2.other (Box2.other (by repeat (first | with_reducible assumption | with_reducible refine Box2.grow ?_ hb4 | with_reducible refine Box2.grow ?_ hb3 | with_reducible refine Box2.grow ?_ hb5 | with_reducible refine Box2.grow ?_ hb6 | with_reducible refine Box2.grow ?_ hb)) (by omega)) (by omega)), ⟨Wd.off (Wd.off (Wd.off (Wd.off (by repeat (first | with_reducible assumption | with_reducible refine Wd.grow ?_ hb4 | with_reducible refine Wd.grow ?_ hb3 | with_reducible refine Wd.grow ?_ hb5 | with_reducible refine Wd.grow ?_ hb6)) o3X _) o3X _) o3Y _) o3Y _, Wd.off (Wd.off (Wd.off (Wd.off (by repeat (first | with_reducible assumption | with_reducible refine Wd.grow ?_ hb4 | with_reducible refine Wd.grow ?_ hb3 | with_reducible refine Wd.grow ?_ hb5 | with_reducible refine Wd.grow ?_ hb6)) o4X _) o4X _) o4Y _) o4Y _, o3X, o3Y, o4X, o4Y⟩, (((hB.setCell (by first | (simp; done) | (simp; omega) | omega) _).setCell (by first | (simp; done) | (simp; omega) | omega) _).setCell (by first | (simp; done) | (simp; omega) | omega) _).setCell (by first | (simp; done) | (simp; omega) | omega) _, Box2.other (Box2.other (Box2.other (Box2.other (by repeat (first | with_reducible assumption | with_reducible refine Box2.grow ?_ hb4 | with_reducible refine Box2.grow ?_ hb3 | with_reducible refine Box2.grow ?_ hb5 | with_reducible refine Box2.grow ?_ hb6 | with_reducible refine Box2.grow ?_ hb)) (by omega)) (by omega)) (by omega)) (by omega)⟩
              exact tree_stop
            exact tree_stop
          exact tree_stop
        (with_reducible refine tree_run hG ?_ ?_)
        · intro K hK
          go_simp
          (with_reducible refine name_alloc2 ?_); intro wY hb6 hBY hs6
          replace hG := Grew.trans hG hb6
          (try dsimp only)
          (with_reducible refine hK _ _ hG ?_)
          clear hK K
          (with_reducible refine tree_run hG ?_ ?_)
          · intro K hK
            go_simp
            go_at_call 23; (with_reducible refine (P2.out _).mono ?_); rintro e w4 ⟨A4, n4, c4, rfl, hw4, ha4, hb4⟩; have hs4 := hb4.size
            replace hG := Grew.trans hG hb4
            (try dsimp only)
            (with_reducible refine hK _ _ hG ?_)
            clear hK K
            (with_reducible refine tree_tail ?_ ?_)
            · intro K hK
              refine with_box (u := .int .i64 0) (v := .slice none 0 0) 8 rfl (by repeat (first | with_reducible assumption | with_reducible refine Box2.grow ?_ hb4 | with_reducible refine Box2.grow ?_ hb3 | with_reducible refine Box2.grow ?_ hb5 | with_reducible refine Box2.grow ?_ hb6 | with_reducible refine Box2.grow ?_ hb)) ?_; rintro ⟨q0, q1, q2, q3, q4⟩
              go_simp
              (with_reducible refine hK _ _ ?_)
              clear hK K
              (with_reducible refine tree_tail ?_ ?_)
              · intro K hK
                refine with_box (u := .int .i64 0) (v := .slice none 0 0) 9 rfl (Box2.other (Box2.other (by repeat (first | with_reducible assumption | with_reducible refine Box2.grow ?_ hb4 | with_reducible refine Box2.grow ?_ hb3 | with_reducible refine Box2.grow ?_ hb5 | with_reducible refine Box2.grow ?_ hb6 | with_reducible refine Box2.grow ?_ hb)) (by omega)) (by omega)) ?_; rintro ⟨y0, y1, y2, y3, y4⟩
                go_simp
                (with_reducible refine hK _ _ ?_)
                clear hK K
                (with_reducible refine tree_nil ?_)
                have hb := hG0
                have hB := G.trans hbw hG.b
                have o3X := off_box hBX (A := A3) (n := n3) (by first | exact Off.abv ha3 (by omega) | exact Off.wd hw3 (by omega))
                have o3Y := off_box hBY (A := A3) (n := n3) (by first | exact Off.abv ha3 (by omega) | exact Off.wd hw3 (by omega))
                have o4X := off_box hBX (A := A4) (n := n4) (by first | exact Off.abv ha4 (by omega) | exact Off.wd hw4 (by omega))
                have o4Y := off_box hBY (A := A4) (n := n4) (by first | exact Off.abv ha4 (by omega) | exact Off.wd hw4 (by omega))
                go_wp2_with fail
                go_meet
                exact ⟨_, _, A3, n3, c3, A4, n4, c4, rfl, rfl, by omega, by omega, by omega, Box2.other (Box2.other (Box2.set2 (u := .int .i64 0) (v := .slice none 0 0) (by repeat (first | with_reducible assumption | with_reducible refine Box2.grow ?_ hb4 | with_reducible refine Box2.grow ?_ hb3 | with_reducible refine Box2.grow ?_ hb5 | with_reducible refine Box2.grow ?_ hb6 | with_reducible refine Box2.grow ?_ hb))) (by omega)) (by omega), Box2.set2 (u := .int .i64 0) (v := .slice none 0 0) (Box2.other (Box2.other (by repeat (first | with_reducible assumption | with_reducible refine Box2.grow ?_ hb4 | with_reducible refine Box2.grow ?_ hb3 | with_reducible refine Box2.grow ?_ hb5 | with_reducible refine Box2.grow ?_ hb6 | with_reducible refine Box2.grow ?_ hb)) (by omega)) (by omega)), ⟨Wd.off (Wd.off (Wd.off (Wd.off (by repeat (first | with_reducible assumption | with_reducible refine Wd.grow ?_ hb4 | with_reducible refine Wd.grow ?_ hb3 | with_reducible refine Wd.grow ?_ hb5 | with_reducible refine Wd.grow ?_ hb6)) o3X _) o3X _) o3Y _) o3Y _, Wd.off (Wd.off (Wd.off (Wd.off (by repeat (first | with_reducible assumption | with_reducible refine Wd.grow ?_ hb4 | with_reducible refine Wd.grow ?_ hb3 | with_reducible refine Wd.grow ?_ hb5 | with_reducible refine Wd.grow ?_ hb6)) o4X _) o4X _) o4Y _) o4Y _, o3X, o3Y, o4X, o4Y⟩, (((hB.setCell (by first | (simp; done) | (simp; omega) | omega) _).setCell (by first | (simp; done) | (simp; omega) | omega) _).setCell (by first | (simp; done) | (simp; omega) | omega) _).setCell (by first | (simp; done) | (simp; omega) | omega) _, Box2.other (Box2.other (Box2.other (Box2.other (by repeat (first | with_reducible assumption | with_reducible refine Box2.grow ?_ hb4 | with_reducible refine Box2.grow ?_ hb3 | with_reducible refine Box2.grow ?_ hb5 | with_reducible refine Box2.grow ?_ hb6 | with_reducible refine Box2.grow ?_ hb)) (by omega)) (by omega)) (by omega)) (by omega)⟩
              exact tree_stop
            exact tree_stop
          exact tree_stop
        exact tree_stop
      (with_reducible refine tree_run hG ?_ ?_)
      · intro K hK
        go_simp
        (with_reducible refine name_alloc2 ?_); intro wY hb6 hBY hs6
        replace hG := Grew.trans hG hb6
        (try dsimp only)
        (with_reducible refine hK _ _ hG ?_)
        clear hK K
        (with_reducible refine tree_run hG ?_ ?_)
        · intro K hK
          go_simp
          go_at_call 23; (with_reducible refine (P2.out _).mono ?_); rintro e w4 ⟨A4, n4, c4, rfl, hw4, ha4, hb4⟩; have hs4 := hb4.size
          replace hG := Grew.trans hG hb4
          (try dsimp only)
          (with_reducible refine hK _ _ hG ?_)
          clear hK K
          (with_reducible refine tree_run hG ?_ ?_)
          · intro K hK
            go_simp
            (with_reducible refine name_alloc2 ?_); intro wX hb5 hBX hs5
            replace hG := Grew.trans hG hb5
            (try dsimp only)
            (with_reducible refine hK _ _ hG ?_)
            clear hK K
            (with_reducible refine tree_tail ?_ ?_)
            · intro K hK
              refine with_box (u := .int .i64 0) (v := .slice none 0 0) 8 rfl (by repeat (first | with_reducible assumption | with_reducible refine Box2.grow ?_ hb4 | with_reducible refine Box2.grow ?_ hb3 | with_reducible refine Box2.grow ?_ hb5 | with_reducible refine Box2.grow ?_ hb6 | with_reducible refine Box2.grow ?_ hb)) ?_; rintro ⟨q0, q1, q2, q3, q4⟩
              go_simp
              (with_reducible refine hK _ _ ?_)
              clear hK K
              (with_reducible refine tree_tail ?_ ?_)
              · intro K hK
                refine with_box (u := .int .i64 0) (v := .slice none 0 0) 9 rfl (Box2.other (Box2.other (by repeat (first | with_reducible assumption | with_reducible refine Box2.grow ?_ hb4 | with_reducible refine Box2.grow ?_ hb3 | with_reducible refine Box2.grow ?_ hb5 | with_reducible refine Box2.grow ?_ hb6 | with_reducible refine Box2.grow ?_ hb)) (by omega)) (by omega)) ?_; rintro ⟨y0, y1, y2, y3, y4⟩
                go_simp
                (with_reducible refine hK _ _ ?_)
                clear hK K
                (with_reducible refine tree_nil ?_)
                have hb := hG0
                have hB := G.trans hbw hG.b
                have o3X := off_box hBX (A := A3) (n := n3) (by first | exact Off.abv ha3 (by omega) | exact Off.wd hw3 (by omega))
                have o3Y := off_box hBY (A := A3) (n := n3) (by first | exact Off.abv ha3 (by omega) | exact Off.wd hw3 (by omega))
                have o4X := off_box hBX (A := A4) (n := n4) (by first | exact Off.abv ha4 (by omega) | exact Off.wd hw4 (by omega))
                have o4Y := off_box hBY (A := A4) (n := n4) (by first | exact Off.abv ha4 (by omega) | exact Off.wd hw4 (by omega))
                go_wp2_with fail
                go_meet
                exact ⟨_, _, A3, n3, c3, A4, n4, c4, rfl, rfl, by omega, by omega, by omega, Box2.other (Box2.other (Box2.set2 (u := .int .i64 0) (v := .slice none 0 0) (by repeat (first | with_reducible assumption | with_reducible refine Box2.grow ?_ hb4 | with_reducible refine Box2.grow ?_ hb3 | with_reducible refine Box2.grow ?_ hb5 | with_reducible refine Box2.grow ?_ hb6 | with_reducible refine Box2.grow ?_ hb))) (by omega)) (by omega), Box2.set2 (u := .int .i64 0) (v := .slice none 0 0) (Box2.other (Box2.other (by repeat (first | with_reducible assumption | with_reducible refine Box2.grow ?_ hb4 | with_reducible refine Box2.grow ?_ hb3 | with_reducible refine Box2.grow ?_ hb5 | with_reducible refine Box2.grow ?_ hb6 | with_reducible refine Box2.grow ?_ hb)) (by omega)) (by omega)), ⟨Wd.off (Wd.off (Wd.off (Wd.off (by repeat (first | with_reducible assumption | with_reducible refine Wd.grow ?_ hb4 | with_reducible refine Wd.grow ?_ hb3 | with_reducible refine Wd.grow ?_ hb5 | with_reducible refine Wd.grow ?_ hb6)) o3X _) o3X _) o3Y _) o3Y _, Wd.off (Wd.off (Wd.off (Wd.off (by repeat (first | with_reducible assumption | with_reducible refine Wd.grow ?_ hb4 | with_reducible refine Wd.grow ?_ hb3 | with_reducible refine Wd.grow ?_ hb5 | with_reducible refine Wd.grow ?_ hb6)) o4X _) o4X _) o4Y _) o4Y _, o3X, o3Y, o4X, o4Y⟩, (((hB.setCell (by first | (simp; done) | (simp; omega) | omega) _).setCell (by first | (simp; done) | (simp; omega) | omega) _).setCell (by first | (simp; done) | (simp; omega) | omega) _).setCell (by first | (simp; done) | (simp; omega) | omega) _, Box2.other (Box2.other (Box2.other (Box2.other (by repeat (first | with_reducible assumption | with_reducible refine Box2.grow ?_ hb4 | with_reducible refine Box2.grow ?_ hb3 | with_reducible refine Box2.grow ?_ hb5 | with_reducible refine Box2.grow ?_ hb6 | with_reducible refine Box2.grow ?_ hb)) (by omega)) (by omega)) (by omega)) (by omega)⟩
              exact tree_stop
            exact tree_stop
          exact tree_stop
        (with_reducible refine tree_run hG ?_ ?_)
        · intro K hK
          go_simp
          (with_reducible refine name_alloc2 ?_); intro wX hb5 hBX hs5
          replace hG := Grew.trans hG hb5
          (try dsimp only)
          (with_reducible refine hK _ _ hG ?_)
          clear hK K
          (with_reducible refine tree_run hG ?_ ?_)
          · intro K hK
            go_simp
            go_at_call 23; (with_reducible refine (P2.out _).mono ?_); rintro e w4 ⟨A4, n4, c4, rfl, hw4, ha4, hb4⟩; have hs4 := hb4.size
            replace hG := Grew.trans hG hb4
            (try dsimp only)
            (with_reducible refine hK _ _ hG ?_)
            clear hK K
            (with_reducible refine tree_tail ?_ ?_)
            · intro K hK
              refine with_box (u := .int .i64 0) (v := .slice none 0 0) 8 rfl (by repeat (first | with_reducible assumption | with_reducible refine Box2.grow ?_ hb4 | with_reducible refine Box2.grow ?_ hb3 | with_reducible refine Box2.grow ?_ hb5 | with_reducible refine Box2.grow ?_ hb6 | with_reducible refine Box2.grow ?_ hb)) ?_; rintro ⟨q0, q1, q2, q3, q4⟩
              go_simp
              (with_reducible refine hK _ _ ?_)
              clear hK K
              (with_reducible refine tree_tail ?_ ?_)
              · intro K hK
                refine with_box (u := .int .i64 0) (v := .slice none 0 0) 9 rfl (Box2.other (Box2.other (by repeat (first | with_reducible assumption | with_reducible refine Box2.grow ?_ hb4 | with_reducible refine Box2.grow ?_ hb3 | with_reducible refine Box2.grow ?_ hb5 | with_reducible refine Box2.grow ?_ hb6 | with_reducible refine Box2.grow ?_ hb)) (by omega)) (by omega)) ?_; rintro ⟨y0, y1, y2, y3, y4⟩
                go_simp
                (with_reducible refine hK _ _ ?_)
                clear hK K
                (with_reducible refine tree_nil ?_)
                have hb := hG0
                have hB := G.trans hbw hG.b
                have o3X := off_box hBX (A := A3) (n := n3) (by first | exact Off.abv ha3 (by omega) | exact Off.wd hw3 (by omega))
                have o3Y := off_box hBY (A := A3) (n := n3) (by first | exact Off.abv ha3 (by omega) | exact Off.wd hw3 (by omega))
                have o4X := off_box hBX (A := A4) (n := n4) (by first | exact Off.abv ha4 (by omega) | exact Off.wd hw4 (by omega))
                have o4Y := off_box hBY (A := A4) (n := n4) (by first | exact Off.abv ha4 (by omega) | exact Off.wd hw4 (by omega))
                go_wp2_with fail
                go_meet
                exact ⟨_, _, A3, n3, c3, A4, n4, c4, rfl, rfl, by omega, by omega, by omega, Box2.other (Box2.other (Box2.set2 (u := .int .i64 0) (v := .slice none 0 0) (by repeat (first | with_reducible assumption | with_reducible refine Box2.grow ?_ hb4 | with_reducible refine Box2.grow ?_ hb3 | with_reducible refine Box2.grow ?_ hb5 | with_reducible refine Box2.grow ?_ hb6 | with_reducible refine Box2.grow ?_ hb))) (by omega)) (by omega), Box2.set2 (u := .int .i64 0) (v := .slice none 0 0) (Box2.other (Box2.other (by repeat (first | with_reducible assumption | with_reducible refine Box2.grow ?_ hb4 | with_reducible refine Box2.grow ?_ hb3 | with_reducible refine Box2.grow ?_ hb5 | with_reducible refine Box2.grow ?_ hb6 | with_reducible refine Box2.grow ?_ hb)) (by omega)) (by omega)), ⟨Wd.off (Wd.off (Wd.off (Wd.off (by repeat (first | with_reducible assumption | with_reducible refine Wd.grow ?_ hb4 | with_reducible refine Wd.grow ?_ hb3 | with_reducible refine Wd.grow ?_ hb5 | with_reducible refine Wd.grow ?_ hb6)) o3X _) o3X _) o3Y _) o3Y _, Wd.off (Wd.off (Wd.off (Wd.off (by repeat (first | with_reducible assumption | with_reducible refine Wd.grow ?_ hb4 | with_reducible refine Wd.grow ?_ hb3 | with_reducible refine Wd.grow ?_ hb5 | with_reducible refine Wd.grow ?_ hb6)) o4X _) o4X _) o4Y _) o4Y _, o3X, o3Y, o4X, o4Y⟩, (((hB.setCell (by first | (simp; done) | (simp; omega) | omega) _).setCell (by first | (simp; done) | (simp; omega) | omega) _).setCell (by first | (simp; done) | (simp; omega) | omega) _).setCell (by first | (simp; done) | (simp; omega) | omega) _, Box2.other (Box2.other (Box2.other (Box2.other (by repeat (first | with_reducible assumption | with_reducible refine Box2.grow ?_ hb4 | with_reducible refine Box2.grow ?_ hb3 | with_reducible refine Box2.grow ?_ hb5 | with_reducible refine Box2.grow ?_ hb6 | with_reducible refine Box2.grow ?_ hb)) (by omega)) (by omega)) (by omega)) (by omega)⟩
              exact tree_stop
            exact tree_stop
          exact tree_stop
        exact tree_stop
      exact tree_stop
    (with_reducible refine tree_run hG ?_ ?_)
    · intro K hK
      go_simp
      (with_reducible refine name_alloc2 ?_); intro wX hb5 hBX hs5
      replace hG := Grew.trans hG hb5
      (try dsimp only)
      (with_reducible refine hK _ _ hG ?_)
      clear hK K
      (with_reducible refine tree_run hG ?_ ?_)
      · intro K hK
        go_simp
        go_at_call 23; (with_reducible refine (P1.out _).mono ?_); rintro e w3 ⟨A3, n3, c3, rfl, hw3, ha3, hb3⟩; have hs3 := hb3.size
        replace hG := Grew.trans hG hb3
        (try dsimp only)
        (with_reducible refine hK _ _ hG ?_)
        clear hK K
        (with_reducible refine tree_run hG ?_ ?_)
        · intro K hK
          go_simp
          go_at_call 23; (with_reducible refine (P2.out _).mono ?_); rintro e w4 ⟨A4, n4, c4, rfl, hw4, ha4, hb4⟩; have hs4 := hb4.size
          replace hG := Grew.trans hG hb4
          (try dsimp only)
          (with_reducible refine hK _ _ hG ?_)
          clear hK K
          (with_reducible refine tree_run hG ?_ ?_)
          · intro K hK
            go_simp
            (with_reducible refine name_alloc2 ?_); intro wY hb6 hBY hs6
            replace hG := Grew.trans hG hb6
            (try dsimp only)
            (with_reducible refine hK _ _ hG ?_)
            clear hK K
            (with_reducible refine tree_tail ?_ ?_)
            · intro K hK
              refine with_box (u := .int .i64 0) (v := .slice none 0 0) 8 rfl (by repeat (first | with_reducible assumption | with_reducible refine Box2.grow ?_ hb4 | with_reducible refine Box2.grow ?_ hb3 | with_reducible refine Box2.grow ?_ hb5 | with_reducible refine Box2.grow ?_ hb6 | with_reducible refine Box2.grow ?_ hb)) ?_; rintro ⟨q0, q1, q2, q3, q4⟩
              go_simp
              (with_reducible refine hK _ _ ?_)
              clear hK K
              (with_reducible refine tree_tail ?_ ?_)
              · intro K hK
                refine with_box (u := .int .i64 0) (v := .slice none 0 0) 9 rfl (Box2.other (Box2.other (by repeat (first | with_reducible assumption | with_reducible refine Box2.grow ?_ hb4 | with_reducible refine Box2.grow ?_ hb3 | with_reducible refine Box2.grow ?_ hb5 | with_reducible refine Box2.grow ?_ hb6 | with_reducible refine Box2.grow ?_ hb)) (by omega)) (by omega)) ?_; rintro ⟨y0, y1, y2, y3, y4⟩
                go_simp
                (with_reducible refine hK _ _ ?_)
                clear hK K
                (with_reducible refine tree_nil ?_)
                have hb := hG0
                have hB := G.trans hbw hG.b
                have o3X := off_box hBX (A := A3) (n := n3) (by first | exact Off.abv ha3 (by omega) | exact Off.wd hw3 (by omega))
                have o3Y := off_box hBY (A := A3) (n := n3) (by first | exact Off.abv ha3 (by omega) | exact Off.wd hw3 (by omega))
                have o4X := off_box hBX (A := A4) (n := n4) (by first | exact Off.abv ha4 (by omega) | exact Off.wd hw4 (by omega))
                have o4Y := off_box hBY (A := A4) (n := n4) (by first | exact Off.abv ha4 (by omega) | exact Off.wd hw4 (by omega))
                go_wp2_with fail
                go_meet
                exact ⟨_, _, A3, n3, c3, A4, n4, c4, rfl, rfl, by omega, by omega, by omega, Box2.other (Box2.other (Box2.set2 (u := .int .i64 0) (v := .slice none 0 0) (by repeat (first | with_reducible assumption | with_reducible refine Box2.grow ?_ hb4 | with_reducible refine Box2.grow ?_ hb3 | with_reducible refine Box2.grow ?_ hb5 | with_reducible refine Box2.grow ?_ hb6 | with_reducible refine Box2.grow ?_ hb))) (by omega)) (by omega), Box2.set2 (u := .int .i64 0) (v := .slice none 0 0) (Box2.other (Box2.other (by repeat (first | with_reducible assumption | with_reducible refine Box2.grow ?_ hb4 | with_reducible refine Box2.grow ?_ hb3 | with_reducible refine Box2.grow ?_ hb5 | with_reducible refine Box2.grow ?_ hb6 | with_reducible refine Box2.grow ?_ hb)) (by omega)) (by omega)), ⟨Wd.off (Wd.off (Wd.off (Wd.off (by repeat (first | with_reducible assumption | with_reducible refine Wd.grow ?_ hb4 | with_reducible refine Wd.grow ?_ hb3 | with_reducible refine Wd.grow ?_ hb5 | with_reducible refine Wd.grow ?_ hb6)) o3X _) o3X _) o3Y _) o3Y _, Wd.off (Wd.off (Wd.off (Wd.off (by repeat (first | with_reducible assumption | with_reducible refine Wd.grow ?_ hb4 | with_reducible refine Wd.grow ?_ hb3 | with_reducible refine Wd.grow ?_ hb5 | with_reducible refine Wd.grow ?_ hb6)) o4X _) o4X _) o4Y _) o4Y _, o3X, o3Y, o4X, o4Y⟩, (((hB.setCell (by first | (simp; done) | (simp; omega) | omega) _).setCell (by first | (simp; done) | (simp; omega) | omega) _).setCell (by first | (simp; done) | (simp; omega) | omega) _).setCell (by first | (simp; done) | (simp; omega) | omega) _, Box2.other (Box2.other (Box2.other (Box2.other (by repeat (first | with_reducible assumption | with_reducible refine Box2.grow ?_ hb4 | with_reducible refine Box2.grow ?_ hb3 | with_reducible refine Box2.grow ?_ hb5 | with_reducible refine Box2.grow ?_ hb6 | with_reducible refine Box2.grow ?_ hb)) (by omega)) (by omega)) (by omega)) (by omega)⟩
              exact tree_stop
            exact tree_stop
          exact tree_stop
        (with_reducible refine tree_run hG ?_ ?_)
        · intro K hK
          go_simp
          (with_reducible refine name_alloc2 ?_); intro wY hb6 hBY hs6
          replace hG := Grew.trans hG hb6
          (try dsimp only)
          (with_reducible refine hK _ _ hG ?_)
          clear hK K
          (with_reducible refine tree_run hG ?_ ?_)
          · intro K hK
            go_simp
            go_at_call 23; (with_reducible refine (P2.out _).mono ?_); rintro e w4 ⟨A4, n4, c4, rfl, hw4, ha4, hb4⟩; have hs4 := hb4.size
            replace hG := Grew.trans hG hb4
            (try dsimp only)
            (with_reducible refine hK _ _ hG ?_)
            clear hK K
            (with_reducible refine tree_tail ?_ ?_)
            · intro K hK
              refine with_box (u := .int .i64 0) (v := .slice none 0 0) 8 rfl (by repeat (first | with_reducible assumption | with_reducible refine Box2.grow ?_ hb4 | with_reducible refine Box2.grow ?_ hb3 | with_reducible refine Box2.grow ?_ hb5 | with_reducible refine Box2.grow ?_ hb6 | with_reducible refine Box2.grow ?_ hb)) ?_; rintro ⟨q0, q1, q2, q3, q4⟩
              go_simp
              (with_reducible refine hK _ _ ?_)
              clear hK K
              (with_reducible refine tree_tail ?_ ?_)
              · intro K hK
                refine with_box (u := .int .i64 0) (v := .slice none 0 0) 9 rfl (Box2.other (Box2.other (by repeat (first | with_reducible assumption | with_reducible refine Box2.grow ?_ hb4 | with_reducible refine Box2.grow ?_ hb3 | with_reducible refine Box2.grow ?_ hb5 | with_reducible refine Box2.grow ?_ hb6 | with_reducible refine Box2.grow ?_ hb)) (by omega)) (by omega)) ?_; rintro ⟨y0, y1, y2, y3, y4⟩
                go_simp
                (with_reducible refine hK _ _ ?_)
                clear hK K
                (with_reducible refine tree_nil ?_)
                have hb := hG0
                have hB := G.trans hbw hG.b
                have o3X := off_box hBX (A := A3) (n := n3) (by first | exact Off.abv ha3 (by omega) | exact Off.wd hw3 (by omega))
                have o3Y := off_box hBY (A := A3) (n := n3) (by first | exact Off.abv ha3 (by omega) | exact Off.wd hw3 (by omega))
                have o4X := off_box hBX (A := A4) (n := n4) (by first | exact Off.abv ha4 (by omega) | exact Off.wd hw4 (by omega))
                have o4Y := off_box hBY (A := A4) (n := n4) (by first | exact Off.abv ha4 (by omega) | exact Off.wd hw4 (by omega))
                go_wp2_with fail
                go_meet
                exact ⟨_, _, A3, n3, c3, A4, n4, c4, rfl, rfl, by omega, by omega, by omega, Box2.other (Box2.other (Box2.set2 (u := .int .i64 0) (v := .slice none 0 0) (by repeat (first | with_reducible assumption | with_reducible refine Box2.grow ?_ hb4 | with_reducible refine Box2.grow ?_ hb3 | with_reducible refine Box2.grow ?_ hb5 | with_reducible refine Box2.grow ?_ hb6 | with_reducible refine Box2.grow ?_ hb))) (by omega)) (by omega), Box2.set2 (u := .int .i64 0) (v := .slice none 0 0) (Box2.other (Box2.other (by repeat (first | with_reducible assumption | with_reducible refine Box2.grow ?_ hb4 | with_reducible refine Box2.grow ?_ hb3 | with_reducible refine Box2.grow ?_ hb5 | with_reducible refine Box2.grow ?_ hb6 | with_reducible refine Box2.grow ?_ hb)) (by omega)) (by omega)), ⟨Wd.off (Wd.off (Wd.off (Wd.off (by repeat (first | with_reducible assumption | with_reducible refine Wd.grow ?_ hb4 | with_reducible refine Wd.grow ?_ hb3 | with_reducible refine Wd.grow ?_ hb5 | with_reducible refine Wd.grow ?_ hb6)) o3X _) o3X _) o3Y _) o3Y _, Wd.off (Wd.off (Wd.off (Wd.off (by repeat (first | with_reducible assumption | with_reducible refine Wd.grow ?_ hb4 | with_reducible refine Wd.grow ?_ hb3 | with_reducible refine Wd.grow ?_ hb5 | with_reducible refine Wd.grow ?_ hb6)) o4X _) o4X _) o4Y _) o4Y _, o3X, o3Y, o4X, o4Y⟩, (((hB.setCell (by first | (simp; done) | (simp; omega) | omega) _).setCell (by first | (simp; done) | (simp; omega) | omega) _).setCell (by first | (simp; done) | (simp; omega) | omega) _).setCell (by first | (simp; done) | (simp; omega) | omega) _, Box2.other (Box2.other (Box2.other (Box2.other (by repeat (first | with_reducible assumption | with_reducible refine Box2.grow ?_ hb4 | with_reducible refine Box2.grow ?_ hb3 | with_reducible refine Box2.grow ?_ hb5 | with_reducible refine Box2.grow ?_ hb6 | with_reducible refine Box2.grow ?_ hb)) (by omega)) (by omega)) (by omega)) (by omega)⟩
              exact tree_stop
            exact tree_stop
          exact tree_stop
        exact tree_stop
      (with_reducible refine tree_run hG ?_ ?_)
      · intro K hK
        go_simp
        (with_reducible refine name_alloc2 ?_); intro wY hb6 hBY hs6
        replace hG := Grew.trans hG hb6
        (try dsimp only)
        (with_reducible refine hK _ _ hG ?_)
        clear hK K
        (with_reducible refine tree_run hG ?_ ?_)
        · intro K hK
          go_simp
          go_at_call 23; (with_reducible refine (P1.out _).mono ?_); rintro e w3 ⟨A3, n3, c3, rfl, hw3, ha3, hb3⟩; have hs3 := hb3.size
          replace hG := Grew.trans hG hb3
          (try dsimp only)
          (with_reducible refine hK _ _ hG ?_)
          clear hK K
          (with_reducible refine tree_run hG ?_ ?_)
          · intro K hK
            go_simp
            go_at_call 23; (with_reducible refine (P2.out _).mono ?_); rintro e w4 ⟨A4, n4, c4, rfl, hw4, ha4, hb4⟩; have hs4 := hb4.size
            replace hG := Grew.trans hG hb4
            (try dsimp only)
            (with_reducible refine hK _ _ hG ?_)
            clear hK K
            (with_reducible refine tree_tail ?_ ?_)
            · intro K hK
              refine with_box (u := .int .i64 0) (v := .slice none 0 0) 8 rfl (by repeat (first | with_reducible assumption | with_reducible refine Box2.grow ?_ hb4 | with_reducible refine Box2.grow ?_ hb3 | with_reducible refine Box2.grow ?_ hb5 | with_reducible refine Box2.grow ?_ hb6 | with_reducible refine Box2.grow ?_ hb)) ?_; rintro ⟨q0, q1, q2, q3, q4⟩
              go_simp
              (with_reducible refine hK _ _ ?_)
              clear hK K
              (with_reducible refine tree_tail ?_ ?_)
              · intro K hK
                refine with_box (u := .int .i64 0) (v := .slice none 0 0) 9 rfl (Box2.other (Box2.other (by repeat (first | with_reducible assumption | with_reducible refine Box2.grow ?_ hb4 | with_reducible refine Box2.grow ?_ hb3 | with_reducible refine Box2.grow ?_ hb5 | with_reducible refine Box2.grow ?_ hb6 | with_reducible refine Box2.grow ?_ hb)) (by omega)) (by omega)) ?_; rintro ⟨y0, y1, y2, y3, y4⟩
                go_simp
                (with_reducible refine hK _ _ ?_)
                clear hK K
                (with_reducible refine tree_nil ?_)
                have hb := hG0
                have hB := G.trans hbw hG.b
                have o3X := off_box hBX (A := A3) (n := n3) (by first | exact Off.abv ha3 (by omega) | exact Off.wd hw3 (by omega))
                have o3Y := off_box hBY (A := A3) (n := n3) (by first | exact Off.abv ha3 (by omega) | exact Off.wd hw3 (by omega))
                have o4X := off_box hBX (A := A4) (n := n4) (by first | exact Off.abv ha4 (by omega) | exact Off.wd hw4 (by omega))
                have o4Y := off_box hBY (A := A4) (n := n4) (by first | exact Off.abv ha4 (by omega) | exact Off.wd hw4 (by omega))
                go_wp2_with fail
                go_meet
                exact ⟨_, _, A3, n3, c3, A4, n4, c4, rfl, rfl, by omega, by omega, by omega, Box2.other (Box2.other (Box2.set2 (u := .int .i64 0) (v := .slice none 0 0) (by repeat (first | with_reducible assumption | with_reducible refine Box2.grow ?_ hb4 | with_reducible refine Box2.grow ?_ hb3 | with_reducible refine Box2.grow ?_ hb5 | with_reducible refine Box2.grow ?_ hb6 | with_reducible refine Box2.grow ?_ hb))) (by omega)) (by omega), Box2.set2 (u := .int .i64 0) (v := .slice none 0 0) (Box2.other (Box2.other (by repeat (first | with_reducible assumption | with_reducible refine Box2.grow ?_ hb4 | with_reducible refine Box2.grow ?_ hb3 | with_reducible refine Box2.grow ?_ hb5 | with_reducible refine Box2.grow ?_ hb6 | with_reducible refine Box2.grow ?_ hb)) (by omega)) (by omega)), ⟨Wd.off (Wd.off (Wd.off (Wd.off (by repeat (first | with_reducible assumption | with_reducible refine Wd.grow ?_ hb4 | with_reducible refine Wd.grow ?_ hb3 | with_reducible refine Wd.grow ?_ hb5 | with_reducible refine Wd.grow ?_ hb6)) o3X _) o3X _) o3Y _) o3Y _, Wd.off (Wd.off (Wd.off (Wd.off (by repeat (first | with_reducible assumption | with_reducible refine Wd.grow ?_ hb4 | with_reducible refine Wd.grow ?_ hb3 | with_reducible refine Wd.grow ?_ hb5 | with_reducible refine Wd.grow ?_ hb6)) o4X _) o4X _) o4Y _) o4Y _, o3X, o3Y, o4X, o4Y⟩, (((hB.setCell (by first | (simp; done) | (simp; omega) | omega) _).setCell (by first | (simp; done) | (simp; omega) | omega) _).setCell (by first | (simp; done) | (simp; omega) | omega) _).setCell (by first | (simp; done) | (simp; omega) | omega) _, Box2.other (Box2.other (Box2.other (Box2.other (by repeat (first | with_reducible assumption | with_reducible refine Box2.grow ?_ hb4 | with_reducible refine Box2.grow ?_ hb3 | with_reducible refine Box2.grow ?_ hb5 | with_reducible refine Box2.grow ?_ hb6 | with_reducible refine Box2.grow ?_ hb)) (by omega)) (by omega)) (by omega)) (by omega)⟩
              exact tree_stop
            exact tree_stop
          exact tree_stop
        exact tree_stop
      exact tree_stop
    (with_reducible refine tree_run hG ?_ ?_)
    · intro K hK
      go_simp
      (with_reducible refine name_alloc2 ?_); intro wY hb6 hBY hs6
      replace hG := Grew.trans hG hb6
      (try dsimp only)
      (with_reducible refine hK _ _ hG ?_)
      clear hK K
      (with_reducible refine tree_run hG ?_ ?_)
      · intro K hK
        go_simp
        go_at_call 23; (with_reducible refine (P1.out _).mono ?_); rintro e w3 ⟨A3, n3, c3, rfl, hw3, ha3, hb3⟩; have hs3 := hb3.size
        replace hG := Grew.trans hG hb3
        (try dsimp only)
        (with_reducible refine hK _ _ hG ?_)
        clear hK K
        (with_reducible refine tree_run hG ?_ ?_)
        · intro K hK
          go_simp
          go_at_call 23; (with_reducible refine (P2.out _).mono ?_); rintro e w4 ⟨A4, n4, c4, rfl, hw4, ha4, hb4⟩; have hs4 := hb4.size
          replace hG := Grew.trans hG hb4
          (try dsimp only)
          (with_reducible refine hK _ _ hG ?_)
          clear hK K
          (with_reducible refine tree_run hG ?_ ?_)
          · intro K hK
            go_simp
            (with_reducible refine name_alloc2 ?_); intro wX hb5 hBX hs5
            replace hG := Grew.trans hG hb5
            (try dsimp only)
            (with_reducible refine hK _ _ hG ?_)
            clear hK K
            (with_reducible refine tree_tail ?_ ?_)
            · intro K hK
              refine with_box (u := .int .i64 0) (v := .slice none 0 0) 8 rfl (by repeat (first | with_reducible assumption | with_reducible refine Box2.grow ?_ hb4 | with_reducible refine Box2.grow ?_ hb3 | with_reducible refine Box2.grow ?_ hb5 | with_reducible refine Box2.grow ?_ hb6 | with_reducible refine Box2.grow ?_ hb)) ?_; rintro ⟨q0, q1, q2, q3, q4⟩
              go_simp
              (with_reducible refine hK _ _ ?_)
              clear hK K
              (with_reducible refine tree_tail ?_ ?_)
              · intro K hK
                refine with_box (u := .int .i64 0) (v := .slice none 0 0) 9 rfl (Box2.other (Box2.other (by repeat (first | with_reducible assumption | with_reducible refine Box2.grow ?_ hb4 | with_reducible refine Box2.grow ?_ hb3 | with_reducible refine Box2.grow ?_ hb5 | with_reducible refine Box2.grow ?_ hb6 | with_reducible refine Box2.grow ?_ hb)) (by omega)) (by omega)) ?_; rintro ⟨y0, y1, y2, y3, y4⟩
                go_simp
                (with_reducible refine hK _ _ ?_)
                clear hK K
                (with_reducible refine tree_nil ?_)
                have hb := hG0
                have hB := G.trans hbw hG.b
                have o3X := off_box hBX (A := A3) (n := n3) (by first | exact Off.abv ha3 (by omega) | exact Off.wd hw3 (by omega))
                have o3Y := off_box hBY (A := A3) (n := n3) (by first | exact Off.abv ha3 (by omega) | exact Off.wd hw3 (by omega))
                have o4X := off_box hBX (A := A4) (n := n4) (by first | exact Off.abv ha4 (by omega) | exact Off.wd hw4 (by omega))
                have o4Y := off_box hBY (A := A4) (n := n4) (by first | exact Off.abv ha4 (by omega) | exact Off.wd hw4 (by omega))
                go_wp2_with fail
                go_meet
                exact ⟨_, _, A3, n3, c3, A4, n4, c4, rfl, rfl, by omega, by omega, by omega, Box2.other (Box2.other (Box2.set2 (u := .int .i64 0) (v := .slice none 0 0) (by repeat (first | with_reducible assumption | with_reducible refine Box2.grow ?_ hb4 | with_reducible refine Box2.grow ?_ hb3 | with_reducible refine Box2.grow ?_ hb5 | with_reducible refine Box2.grow ?_ hb6 | with_reducible refine Box2.grow ?_ hb))) (by omega)) (by omega), Box2.set2 (u := .int .i64 0) (v := .slice none 0 0) (Box2.other (Box2.other (by repeat (first | with_reducible assumption | with_reducible refine Box2.grow ?_ hb4 | with_reducible refine Box2.grow ?_ hb3 | with_reducible refine Box2.grow ?_ hb5 | with_reducible refine Box2.grow ?_ hb6 | with_reducible refine Box2.grow ?_ hb)) (by omega)) (by omega)), ⟨Wd.off (Wd.off (Wd.off (Wd.off (by repeat (first | with_reducible assumption | with_reducible refine Wd.grow ?_ hb4 | with_reducible refine Wd.grow ?_ hb3 | with_reducible refine Wd.grow ?_ hb5 | with_reducible refine Wd.grow ?_ hb6)) o3X _) o3X _) o3Y _) o3Y _, Wd.off (Wd.off (Wd.off (Wd.off (by repeat (first | with_reducible assumption | with_reducible refine Wd.grow ?_ hb4 | with_reducible refine Wd.grow ?_ hb3 | with_reducible refine Wd.grow ?_ hb5 | with_reducible refine Wd.grow ?_ hb6)) o4X _) o4X _) o4Y _) o4Y _, o3X, o3Y, o4X, o4Y⟩, (((hB.setCell (by first | (simp; done) | (simp; omega) | omega) _).setCell (by first | (simp; done) | (simp; omega) | omega) _).setCell (by first | (simp; done) | (simp; omega) | omega) _).setCell (by first | (simp; done) | (simp; omega) | omega) _, Box2.other (Box2.other (Box2.other (Box2.other (by repeat (first | with_reducible assumption | with_reducible refine Box2.grow ?_ hb4 | with_reducible refine Box2.grow ?_ hb3 | with_reducible refine Box2.grow ?_ hb5 | with_reducible refine Box2.grow ?_ hb6 | with_reducible refine Box2.grow ?_ hb)) (by omega)) (by omega)) (by omega)) (by omega)⟩
              exact tree_stop
            exact tree_stop
          exact tree_stop
        (with_reducible refine tree_run hG ?_ ?_)
        · intro K hK
          go_simp
          (with_reducible refine name_alloc2 ?_); intro wX hb5 hBX hs5
          replace hG := Grew.trans hG hb5
          (try dsimp only)
          (with_reducible refine hK _ _ hG ?_)
          clear hK K
          (with_reducible refine tree_run hG ?_ ?_)
          · intro K hK
            go_simp
            go_at_call 23; (with_reducible refine (P2.out _).mono ?_); rintro e w4 ⟨A4, n4, c4, rfl, hw4, ha4, hb4⟩; have hs4 := hb4.size
            replace hG := Grew.trans hG hb4
            (try dsimp only)
            (with_reducible refine hK _ _ hG ?_)
            clear hK K
            (with_reducible refine tree_tail ?_ ?_)
            · intro K hK
              refine with_box (u := .int .i64 0) (v := .slice none 0 0) 8 rfl (by repeat (first | with_reducible assumption | with_reducible refine Box2.grow ?_ hb4 | with_reducible refine Box2.grow ?_ hb3 | with_reducible refine Box2.grow ?_ hb5 | with_reducible refine Box2.grow ?_ hb6 | with_reducible refine Box2.grow ?_ hb)) ?_; rintro ⟨q0, q1, q2, q3, q4⟩
              go_simp
              (with_reducible refine hK _ _ ?_)
              clear hK K
              (with_reducible refine tree_tail ?_ ?_)
              · intro K hK
                refine with_box (u := .int .i64 0) (v := .slice none 0 0) 9 rfl (Box2.other (Box2.other (by repeat (first | with_reducible assumption | with_reducible refine Box2.grow ?_ hb4 | with_reducible refine Box2.grow ?_ hb3 | with_reducible refine Box2.grow ?_ hb5 | with_reducible refine Box2.grow ?_ hb6 | with_reducible refine Box2.grow ?_ hb)) (by omega)) (by omega)) ?_; rintro ⟨y0, y1, y2, y3, y4⟩
                go_simp
                (with_reducible refine hK _ _ ?_)
                clear hK K
                (with_reducible refine tree_nil ?_)
                have hb := hG0
                have hB := G.trans hbw hG.b
                have o3X := off_box hBX (A := A3) (n := n3) (by first | exact Off.abv ha3 (by omega) | exact Off.wd hw3 (by omega))
                have o3Y := off_box hBY (A := A3) (n := n3) (by first | exact Off.abv ha3 (by omega) | exact Off.wd hw3 (by omega))
                have o4X := off_box hBX (A := A4) (n := n4) (by first | exact Off.abv ha4 (by omega) | exact Off.wd hw4 (by omega))
                have o4Y := off_box hBY (A := A4) (n := n4) (by first | exact Off.abv ha4 (by omega) | exact Off.wd hw4 (by omega))
                go_wp2_with fail
                go_meet
                exact ⟨_, _, A3, n3, c3, A4, n4, c4, rfl, rfl, by omega, by omega, by omega, Box2.other (Box2.other (Box2.set2 (u := .int .i64 0) (v := .slice none 0 0) (by repeat (first | with_reducible assumption | with_reducible refine Box2.grow ?_ hb4 | with_reducible refine Box2.grow ?_ hb3 | with_reducible refine Box2.grow ?_ hb5 | with_reducible refine Box2.grow ?_ hb6 | with_reducible refine Box2.grow ?_ hb))) (by omega)) (by omega), Box2.set2 (u := .int .i64 0) (v := .slice none 0 0) (Box2.other (Box2.other (by repeat (first | with_reducible assumption | with_reducible refine Box2.grow ?_ hb4 | with_reducible refine Box2.grow ?_ hb3 | with_reducible refine Box2.grow ?_ hb5 | with_reducible refine Box2.grow ?_ hb6 | with_reducible refine Box2.grow ?_ hb)) (by omega)) (by omega)), ⟨Wd.off (Wd.off (Wd.off (Wd.off (by repeat (first | with_reducible assumption | with_reducible refine Wd.grow ?_ hb4 | with_reducible refine Wd.grow ?_ hb3 | with_reducible refine Wd.grow ?_ hb5 | with_reducible refine Wd.grow ?_ hb6)) o3X _) o3X _) o3Y _) o3Y _, Wd.off (Wd.off (Wd.off (Wd.off (by repeat (first | with_reducible assumption | with_reducible refine Wd.grow ?_ hb4 | with_reducible refine Wd.grow ?_ hb3 | with_reducible refine Wd.grow ?_ hb5 | with_reducible refine Wd.grow ?_ hb6)) o4X _) o4X _) o4Y _) o4Y _, o3X, o3Y, o4X, o4Y⟩, (((hB.setCell (by first | (simp; done) | (simp; omega) | omega) _).setCell (by first | (simp; done) | (simp; omega) | omega) _).setCell (by first | (simp; done) | (simp; omega) | omega) _).setCell (by first | (simp; done) | (simp; omega) | omega) _, Box2.other (Box2.other (Box2.other (Box2.other (by repeat (first | with_reducible assumption | with_reducible refine Box2.grow ?_ hb4 | with_reducible refine Box2.grow ?_ hb3 | with_reducible refine Box2.grow ?_ hb5 | with_reducible refine Box2.grow ?_ hb6 | with_reducible refine Box2.grow ?_ hb)) (by omega)) (by omega)) (by omega)) (by omega)⟩
              exact tree_stop
            exact tree_stop
          exact tree_stop
        exact tree_stop
      (with_reducible refine tree_run hG ?_ ?_)
      · intro K hK
        go_simp
        (with_reducible refine name_alloc2 ?_); intro wX hb5 hBX hs5
        replace hG := Grew.trans hG hb5
        (try dsimp only)
        (with_reducible refine hK _ _ hG ?_)
        clear hK K
        (with_reducible refine tree_run hG ?_ ?_)
        · intro K hK
          go_simp
          go_at_call 23; (with_reducible refine (P1.out _).mono ?_); rintro e w3 ⟨A3, n3, c3, rfl, hw3, ha3, hb3⟩; have hs3 := hb3.size
          replace hG := Grew.trans hG hb3
          (try dsimp only)
          (with_reducible refine hK _ _ hG ?_)
          clear hK K
          (with_reducible refine tree_run hG ?_ ?_)
          · intro K hK
            go_simp
            go_at_call 23; (with_reducible refine (P2.out _).mono ?_); rintro e w4 ⟨A4, n4, c4, rfl, hw4, ha4, hb4⟩; have hs4 := hb4.size
            replace hG := Grew.trans hG hb4
            (try dsimp only)
            (with_reducible refine hK _ _ hG ?_)
            clear hK K
            (with_reducible refine tree_tail ?_ ?_)
            · intro K hK
              refine with_box (u := .int .i64 0) (v := .slice none 0 0) 8 rfl (by repeat (first | with_reducible assumption | with_reducible refine Box2.grow ?_ hb4 | with_reducible refine Box2.grow ?_ hb3 | with_reducible refine Box2.grow ?_ hb5 | with_reducible refine Box2.grow ?_ hb6 | with_reducible refine Box2.grow ?_ hb)) ?_; rintro ⟨q0, q1, q2, q3, q4⟩
              go_simp
              (with_reducible refine hK _ _ ?_)
              clear hK K
              (with_reducible refine tree_tail ?_ ?_)
              · intro K hK
                refine with_box (u := .int .i64 0) (v := .slice none 0 0) 9 rfl (Box2.other (Box2.other (by repeat (first | with_reducible assumption | with_reducible refine Box2.grow ?_ hb4 | with_reducible refine Box2.grow ?_ hb3 | with_reducible refine Box2.grow ?_ hb5 | with_reducible refine Box2.grow ?_ hb6 | with_reducible refine Box2.grow ?_ hb)) (by omega)) (by omega)) ?_; rintro ⟨y0, y1, y2, y3, y4⟩
                go_simp
                (with_reducible refine hK _ _ ?_)
                clear hK K
                (with_reducible refine tree_nil ?_)
                have hb := hG0
                have hB := G.trans hbw hG.b
                have o3X := off_box hBX (A := A3) (n := n3) (by first | exact Off.abv ha3 (by omega) | exact Off.wd hw3 (by omega))
                have o3Y := off_box hBY (A := A3) (n := n3) (by first | exact Off.abv ha3 (by omega) | exact Off.wd hw3 (by omega))
                have o4X := off_box hBX (A := A4) (n := n4) (by first | exact Off.abv ha4 (by omega) | exact Off.wd hw4 (by omega))
                have o4Y := off_box hBY (A := A4) (n := n4) (by first | exact Off.abv ha4 (by omega) | exact Off.wd hw4 (by omega))
                go_wp2_with fail
                go_meet
                exact ⟨_, _, A3, n3, c3, A4, n4, c4, rfl, rfl, by omega, by omega, by omega, Box2.other (Box2.other (Box2.set2 (u := .int .i64 0) (v := .slice none 0 0) (by repeat (first | with_reducible assumption | with_reducible refine Box2.grow ?_ hb4 | with_reducible refine Box2.grow ?_ hb3 | with_reducible refine Box2.grow ?_ hb5 | with_reducible refine Box2.grow ?_ hb6 | with_reducible refine Box2.grow ?_ hb))) (by omega)) (by omega), Box2.set2 (u := .int .i64 0) (v := .slice none 0 0) (Box2.other (Box2.other (by repeat (first | with_reducible assumption | with_reducible refine Box2.grow ?_ hb4 | with_reducible refine Box2.grow ?_ hb3 | with_reducible refine Box2.grow ?_ hb5 | with_reducible refine Box2.grow ?_ hb6 | with_reducible refine Box2.grow ?_ hb)) (by omega)) (by omega)), ⟨Wd.off (Wd.off (Wd.off (Wd.off (by repeat (first | with_reducible assumption | with_reducible refine Wd.grow ?_ hb4 | with_reducible refine Wd.grow ?_ hb3 | with_reducible refine Wd.grow ?_ hb5 | with_reducible refine Wd.grow ?_ hb6)) o3X _) o3X _) o3Y _) o3Y _, Wd.off (Wd.off (Wd.off (Wd.off (by repeat (first | with_reducible assumption | with_reducible refine Wd.grow ?_ hb4 | with_reducible refine Wd.grow ?_ hb3 | with_reducible refine Wd.grow ?_ hb5 | with_reducible refine Wd.grow ?_ hb6)) o4X _) o4X _) o4Y _) o4Y _, o3X, o3Y, o4X, o4Y⟩, (((hB.setCell (by first | (simp; done) | (simp; omega) | omega) _).setCell (by first | (simp; done) | (simp; omega) | omega) _).setCell (by first | (simp; done) | (simp; omega) | omega) _).setCell (by first | (simp; done) | (simp; omega) | omega) _, Box2.other (Box2.other (Box2.other (Box2.other (by repeat (first | with_reducible assumption | with_reducible refine Box2.grow ?_ hb4 | with_reducible refine Box2.grow ?_ hb3 | with_reducible refine Box2.grow ?_ hb5 | with_reducible refine Box2.grow ?_ hb6 | with_reducible refine Box2.grow ?_ hb)) (by omega)) (by omega)) (by omega)) (by omega)⟩
              exact tree_stop
            exact tree_stop
          exact tree_stop
        exact tree_stop
      exact tree_stop
    exact tree_stop
  case rest =>
    obtain ⟨X, Y, A3, n3, c3, A4, n4, c4, rfl, rfl, hXY, hX2, hY2, hBX, hBY, hW, hb5, hBr⟩ := hcut
    have hYX : Y ≠ X := fun e => hXY e.symm
    obtain ⟨x0, x1, x2, x3⟩ := id hBX
    obtain ⟨y0, y1, y2, y3⟩ := id hBY
    have ltx := hBX.lt
    have lty := hBY.lt
    by_cases hneg : Z2 < 0
    · have hsn : sgn Z2 < 0 := by unfold sgn; rw [if_pos hneg]; decide
      go_wp2_with fail
      refine wp_region_ord [(0, 1), (2, 1), (1, 2), (3, 2), (4, 3), (5, 3)] [4, 5] 5 (by kernel_rfl) (by decide +kernel) ?_
      simp only [pickO, List.getElem?_cons_succ, List.getElem?_cons_zero]
      intro w0 hG
      (repeat ((first | (with_reducible refine ord_q1 ?_) | (with_reducible refine ord_q0 ?_)); intro K hK; first | (refine Or.inr ⟨?_, ?_⟩; (focus (go_simp; first | done | (simp [undef]; done))); go_simp; (with_reducible refine hK _ ?_); clear hK K) | (refine Or.inl ⟨?_, ?_⟩; (focus (go_simp; done)); apply Exists.intro; refine And.intro ?_ ?_; (focus (first | (intro wq hq; obtain ⟨hcq, hfq⟩ := G.old hq; go_simp; (first | done | exact rfl); done) | (intro wq; go_simp; (first | done | exact rfl); done))); go_simp; (with_reducible refine hK _ ?_); clear hK K) | fail))
      (with_reducible refine ord_run ?_ hG)
      intro K hK
      go_simp
      go_at_call 21; (with_reducible refine (minus_any Z1 A3 n3 c3 _).mono ?_); rintro e6 w6 ⟨rfl, hb6⟩
      replace hG := Grew.trans hG hb6
      (try dsimp only)
      (with_reducible refine hK _ _ hG ?_)
      clear hK K
      (repeat ((first | (with_reducible refine ord_q1 ?_) | (with_reducible refine ord_q0 ?_)); intro K hK; first | (refine Or.inr ⟨?_, ?_⟩; (focus (go_simp; first | done | (simp [undef]; done))); go_simp; (with_reducible refine hK _ ?_); clear hK K) | (refine Or.inl ⟨?_, ?_⟩; (focus (go_simp; done)); apply Exists.intro; refine And.intro ?_ ?_; (focus (first | (intro wq hq; obtain ⟨hcq, hfq⟩ := G.old hq; go_simp; (first | done | exact rfl); done) | (intro wq; go_simp; (first | done | exact rfl); done))); go_simp; (with_reducible refine hK _ ?_); clear hK K) | fail))
      (with_reducible refine ord_run ?_ hG)
      intro K hK
      go_simp
      go_at_call 21; (with_reducible refine (minus_any Z2 A4 n4 c4 _).mono ?_); rintro e7 w7 ⟨rfl, hb7⟩
      replace hG := Grew.trans hG hb7
      (try dsimp only)
      (with_reducible refine hK _ _ hG ?_)
      clear hK K
      (repeat ((first | (with_reducible refine ord_q1 ?_) | (with_reducible refine ord_q0 ?_)); intro K hK; first | (refine Or.inr ⟨?_, ?_⟩; (focus (go_simp; first | done | (simp [undef]; done))); go_simp; (with_reducible refine hK _ ?_); clear hK K) | (refine Or.inl ⟨?_, ?_⟩; (focus (go_simp; done)); apply Exists.intro; refine And.intro ?_ ?_; (focus (first | (intro wq hq; obtain ⟨hcq, hfq⟩ := G.old hq; go_simp; (first | done | exact rfl); done) | (intro wq; go_simp; (first | done | exact rfl); done))); go_simp; (with_reducible refine hK _ ?_); clear hK K) | fail))
      have hbg := hG.b
      have hBX7 := hBX.grow hbg
      have hBY7 := hBY.grow hbg
      replace hBr := (((hBr.grow hbg).other (B' := X) (i := 0) (x := .int .i64 (sgn (-Z1))) (by first | (simp; done) | (simp; omega) | omega)).other (B' := X) (i := 1) (x := .slice A3 n3 c3) (by first | (simp; done) | (simp; omega) | omega))
      replace hBr := (hBr.other (B' := Y) (i := 0) (x := .int .i64 (sgn (-Z2))) (by first | (simp; done) | (simp; omega) | omega)).other (B' := Y) (i := 1) (x := .slice A4 n4 c4) (by first | (simp; done) | (simp; omega) | omega)
      replace hb5 := hb5.trans (hbg.mono (by have := hb5.size; omega))
      replace hb5 := (hb5.setCell (p := ⟨X, 0, none⟩) (by first | (simp; done) | (simp; omega) | omega) (.int .i64 (sgn (-Z1)))).setCell (p := ⟨X, 1, none⟩) (by first | (simp; done) | (simp; omega) | omega) (.slice A3 n3 c3)
      replace hb5 := (hb5.setCell (p := ⟨Y, 0, none⟩) (by first | (simp; done) | (simp; omega) | omega) (.int .i64 (sgn (-Z2)))).setCell (p := ⟨Y, 1, none⟩) (by first | (simp; done) | (simp; omega) | omega) (.slice A4 n4 c4)
      clear x0 x1 x2 x3 y0 y1 y2 y3 ltx lty
      obtain ⟨x0, x1, x2, x3⟩ := id hBX7
      obtain ⟨y0, y1, y2, y3⟩ := id hBY7
      have ltx := hBX7.lt
      have lty := hBY7.lt
      ((with_reducible refine ord_tail ?_); intro K hK; go_simp; (with_reducible refine hK _ _ ?_); clear hK K)
      ((with_reducible refine ord_tail ?_); intro K hK; go_simp; (with_reducible refine hK _ _ ?_); clear hK K)
      (repeat ((first | (with_reducible refine ord_q1 ?_) | (with_reducible refine ord_q0 ?_)); intro K hK; first | (refine Or.inr ⟨?_, ?_⟩; (focus (go_simp; first | done | (simp [undef]; done))); go_simp; (with_reducible refine hK _ ?_); clear hK K) | (refine Or.inl ⟨?_, ?_⟩; (focus (go_simp; done)); apply Exists.intro; refine And.intro ?_ ?_; (focus (first | (intro wq hq; obtain ⟨hcq, hfq⟩ := G.old hq; go_simp; (first | done | exact rfl); done) | (intro wq; go_simp; (first | done | exact rfl); done))); go_simp; (with_reducible refine hK _ ?_); clear hK K) | fail))
      (with_reducible refine ord_nil ?_)
      go_wp2_with fail
      refine (nearest_any (-Z1) (-Z2) A3 A4 n3 n4 c3 c4 _ (((((hW.out.1.grow hbg).off hW.out.2.2.1 _).off hW.out.2.2.1 _).off hW.out.2.2.2.1 _).off hW.out.2.2.2.1 _).neg (((((hW.out.2.1.grow hbg).off hW.out.2.2.2.2.1 _).off hW.out.2.2.2.2.1 _).off hW.out.2.2.2.2.2 _).off hW.out.2.2.2.2.2 _).neg (by omega) (by rw [← hW.out.1.len]; exact l1.out) (by rw [← hW.out.2.1.len]; exact l2.out)).mono ?_
      rintro e8 w8 ⟨A8, n8, c8, rfl, hw8, hb8⟩
      rw [hq1.out hneg] at hw8 ⊢
      replace hBr := hBr.grow hb8
      replace hb5 := hb5.trans (hb8.mono (by have := hb5.size; omega))
      go_wp2_with fail
      refine (FT.out A8 n8 c8 _ hw8).mono ?_
      rintro e9 w9 ⟨rfl, hb9⟩
      replace hBr := hBr.grow hb9
      replace hb5 := hb5.trans (hb9.mono (by have := hb5.size; omega))
      obtain ⟨r0, r1, r2, r3⟩ := id hBr
      have ltr := hBr.lt
      go_wp2_with fail
      exact bodyPost_ret (v := .tuple #[.agg #[.int .i64 p.1, .int .i64 p.2.1], .int .i64 p.2.2]) (by simp only [results, Tryd.results15]; go_simp) rfl ⟨rfl, (hb5.setCell (by first | (simp; done) | (simp; omega) | omega) _).setCell (by first | (simp; done) | (simp; omega) | omega) _⟩
    · have hsn : ¬ sgn Z2 < 0 := by unfold sgn; (repeat' split) <;> omega
      go_wp2_with fail
      refine (nearest_any Z1 Z2 A3 A4 n3 n4 c3 c4 _ (hW.out.1) (hW.out.2.1) (by omega) (by rw [← hW.out.1.len]; exact l1.out) (by rw [← hW.out.2.1.len]; exact l2.out)).mono ?_
      rintro e8 w8 ⟨A8, n8, c8, rfl, hw8, hb8⟩
      rw [hq2.out hneg] at hw8 ⊢
      replace hBr := hBr.grow hb8
      replace hb5 := hb5.trans (hb8.mono (by have := hb5.size; omega))
      go_wp2_with fail
      refine (FT.out A8 n8 c8 _ hw8).mono ?_
      rintro e9 w9 ⟨rfl, hb9⟩
      replace hBr := hBr.grow hb9
      replace hb5 := hb5.trans (hb9.mono (by have := hb5.size; omega))
      obtain ⟨r0, r1, r2, r3⟩ := id hBr
      have ltr := hBr.lt
      go_wp2_with fail
      exact bodyPost_ret (v := .tuple #[.agg #[.int .i64 p.1, .int .i64 p.2.1], .int .i64 p.2.2]) (by simp only [results, Tryd.results15]; go_simp) rfl ⟨rfl, (hb5.setCell (by first | (simp; done) | (simp; omega) | omega) _).setCell (by first | (simp; done) | (simp; omega) | omega) _⟩
theorem refdiv_any (n s m t sc : Int) (w : World) :
    Calls Tryd.prog 15 #[.agg #[.int .i64 n, .int .i64 s], .agg #[.int .i64 m, .int .i64 t], .int .i64 sc] w (RetF (divN n s m t sc) w) := by
  by_cases h : okN n s = true ∧ okN m t = true ∧ 0 ≤ sc ∧ sc ≤ 12
  · obtain ⟨g1, g2, h0, h1⟩ := h
    by_cases hm : m = 0
    · subst hm
      exact refdiv_zero n s t sc w g1 g2 h0 h1
    · obtain ⟨j, rfl, _⟩ := okN_nat g1
      obtain ⟨i, rfl, _⟩ := okN_nat g2
      obtain ⟨q, rfl⟩ : ∃ q : Nat, sc = q := ⟨sc.toNat, by omega⟩
      exact refdiv_ok n m j i q w g1 g2 (by omega) hm
  · exact refdiv_bad n s m t sc w h
end Go.Proofs.YtoipapcbngknfaaDoor
