/- The law StampSeparates returns true: the walk. -/
import Derived.Test.YtjldpodehffbnaaDoorKnown
import Derived.Test.YtjldpodehffbnaaDoorTree
import Derived.Test.YtjldpodehffbnaaDoorLawDescends
import Derived.Deep.DeepCutAuto
namespace Go.Proofs.YtjldpodehffbnaaDoor
set_option linter.unusedVariables false
set_option linter.unnecessarySimpa false
set_option linter.unusedSimpArgs false
open Go.RowKit

theorem cmpL_sep : ∀ (xs ys us vs : List Int), cmpL xs ys < 0 → ¬ (xs.length < ys.length ∧ ys.take xs.length = xs) → cmpL (xs ++ us) (ys ++ vs) = -1
  | [], [], _, _, h, _ => by simp [cmpL] at h
  | [], _ :: _, _, _, _, h => absurd ⟨by simp, by simp⟩ h
  | _ :: _, [], _, _, h, _ => by simp [cmpL] at h
  | x :: xs, y :: ys, us, vs, h, hd => by
    simp only [List.cons_append, cmpL] at h ⊢
    by_cases hxy : cmpI x y = 0
    · rw [if_pos hxy] at h ⊢
      obtain rfl := cmpI_zero.1 hxy
      refine cmpL_sep xs ys us vs h fun hh => hd ⟨by simpa using hh.1, ?_⟩
      simp only [List.length_cons, List.take_succ_cons]
      rw [hh.2]
    · rw [if_neg hxy] at h ⊢
      have := cmpI_cases x y
      omega
theorem cmpS_sep {e f : Int} {xs ys : List Int} (us vs : List Int) (h : cmpS e xs f ys < 0) (hd : descS f ys e xs = false) : cmpS e (xs ++ us) f (ys ++ vs) = -1 := by
  unfold cmpS at h ⊢
  by_cases hef : cmpI e f = 0
  · rw [if_pos hef] at h ⊢
    refine cmpL_sep xs ys us vs h fun hh => ?_
    unfold descS at hd
    simp only [decide_eq_false_iff_not] at hd
    exact hd ⟨(cmpI_zero.1 hef).symm, hh.1, hh.2⟩
  · rw [if_neg hef] at h ⊢
    have := cmpI_cases e f
    omega

theorem Sl.setCellNew {w w0 : World} {A : Option Addr} {n : Nat} {xs : List Value} (h : Sl w A n xs) (h0 : Sl w0 A n xs) {p : Addr} (hp : w0.heap.size ≤ p.block) (u : Value) : Sl (w.setCell p u) A n xs :=
  ⟨h.1, fun hn => by
    obtain ⟨b, off, e, hl, hc⟩ := h.2 hn
    obtain ⟨b', off', e', hl', _⟩ := h0.2 hn
    rw [e] at e'
    simp only [Option.some.injEq, Addr.mk.injEq, and_true] at e'
    obtain ⟨rfl, rfl⟩ := e'
    refine ⟨b, off, e, by simpa [World.setCell] using hl, fun j v hv => ?_⟩
    rw [World.cell?_setCell_other _ _ _ _ (fun e' => by subst e'; simp at hp; omega)]
    exact hc j v hv⟩
/-- What joined gives, its length named, and where it lies. -/
theorem joined_at (e : Int) (A B : Option Addr) (n c m d : Nat) (xs ts : List Int) (w : World) (hx : Sl w A n (i64s xs)) (ht : Sl w B m (i64s ts)) (hn : n ≤ 600) (hm : m ≤ 20) :
    Calls Tryd.prog 20 #[.agg #[.int .i64 e, .slice A n c], .slice B m d] w fun e' w' => ∃ A' c', e' = .returned (.agg #[.int .i64 e, .slice A' (n + m) c']) ∧ Sl w' A' (n + m) (i64s (xs ++ ts)) ∧ n + m ≤ c' ∧ c' ≤ maxLen ∧ Abv w.heap.size A' ∧ Below w.heap.size w w' := by
  refine (joined_any e A B n c m d xs ts w hx ht hn hm).mono ?_
  rintro e' w' ⟨A', c', rfl, h1, h2, h3, h5, h4⟩
  have hl : (xs ++ ts).length = n + m := by rw [List.length_append, hx.len, ht.len]
  rw [hl] at h1 h2 ⊢
  exact ⟨A', c', rfl, h1, h2, h3, h5, h4⟩

theorem have_intro {p q : Prop} (h : p) (k : p → q) : q := k h
theorem cell_alloc {w : World} {a : Addr} {v : Value} (h : w.cell? a = some v) (o : Obj) : (w.alloc o).cell? a = some v := (World.cell?_alloc_lt _ _ _ (cell_lt h)).trans h
theorem cell_setNew {w w0 : World} {a p : Addr} {v v' : Value} (h : w.cell? a = some v) (h0 : w0.cell? a = some v') (hp : w0.heap.size ≤ p.block) (u : Value) : (w.setCell p u).cell? a = some v := by
  rw [World.cell?_setCell_other _ _ _ _ (fun e => by have := cell_lt h0; rw [e] at hp; omega)]
  exact h

set_option maxRecDepth 20000 in set_option maxHeartbeats 4000000 in
theorem stampSeparates_any (e1 : Int) (A1 : Option Addr) (n1 c1 : Nat) (x1 : List Int) (e2 : Int) (A2 : Option Addr) (n2 c2 : Nat) (x2 : List Int) (B1 : Option Addr) (m1 d1 : Nat) (t1 : List Int) (B2 : Option Addr) (m2 d2 : Nat) (t2 : List Int) (w : World)
    (hs1 : StIs w e1 A1 n1 c1 x1) (hs2 : StIs w e2 A2 n2 c2 x2) (hs3 : SlIs w B1 m1 d1 t1) (hs4 : SlIs w B2 m2 d2 t2) (ht : Pow10 w) :
    Calls Tryd.prog 7 #[.agg #[.int .i64 e1, .slice A1 n1 c1], .agg #[.int .i64 e2, .slice A2 n2 c2], .agg #[.slice B1 m1 d1, .slice B2 m2 d2]] w fun e' w' => e' = .returned (.bool true) ∧ Below w.heap.size w w' := by
  obtain ⟨ys1, hy1, hn1, hmc1, hnc1, hcm1, h61⟩ := hs1.cut'
  obtain ⟨ys2, hy2, hn2, hmc2, hnc2, hcm2, h62⟩ := hs2.cut'
  obtain ⟨us1, hu1, hmu1, hud1, hmd1, hdm1⟩ := hs3.cut 20
  obtain ⟨us2, hu2, hmu2, hud2, hmd2, hdm2⟩ := hs4.cut 20
  have htt := Lib.hid ht
  have S1 := Lib.hid (fun w => short_any e1 A1 n1 c1 w hnc1 hcm1)
  have S2 := Lib.hid (fun w => short_any e2 A2 n2 c2 w hnc2 hcm2)
  have h201 : min m1 20 ≤ 20 := by omega
  have h202 : min m2 20 ≤ 20 := by omega
  generalize hM1 : min m1 20 = M1 at *
  generalize hM2 : min m2 20 = M2 at *
  generalize min n1 600 = N1 at *
  generalize min n2 600 = N2 at *
  have L1 := fun w h1 h2 => less_any e1 e2 A1 A2 N1 N2 c1 c2 ys1 ys2 w h1 h2 hn1
  have D1 := fun w h1 h2 => ldescends_any e2 e1 A2 A1 N2 N1 c2 c1 ys2 ys1 w h1 h2 hn2 hn1
  have J1 := Lib.hid (fun w h1 h2 => joined_at e1 A1 B1 N1 c1 M1 d1 ys1 us1 w h1 h2 h61 h201)
  have J2 := Lib.hid (fun w h1 h2 => joined_at e2 A2 B2 N2 c2 M2 d2 ys2 us2 w h1 h2 h62 h202)
  have hsep : cmpS e1 ys1 e2 ys2 < 0 → descS e2 ys2 e1 ys1 = false → ∀ us vs, cmpS e1 (ys1 ++ us) e2 (ys2 ++ vs) = -1 := fun h1 h2 us vs => cmpS_sep us vs h1 h2
  have hmin1 : min (m1 : Int) 20 = (M1 : Int) := by omega
  have hmin2 : min (m2 : Int) 20 = (M2 : Int) := by omega
  have hMi1 : (0 : Int) ≤ (M1 : Int) := by omega
  have hMd1 : (M1 : Int) ≤ (d1 : Int) := by omega
  have hMi2 : (0 : Int) ≤ (M2 : Int) := by omega
  have hMd2 : (M2 : Int) ≤ (d2 : Int) := by omega
  have hzm1 : N1 + M1 ≤ maxLen := by unfold maxLen; omega
  have hzm2 : N2 + M2 ≤ maxLen := by unfold maxLen; omega
  generalize hbl : decide (cmpS e1 ys1 e2 ys2 < 0) = bl at *
  generalize hbd : descS e2 ys2 e1 ys1 = bd at *
  have L1' := Lib.hid L1; have D1' := Lib.hid D1
  have hbl' := Lib.hid hbl; have hsep' := Lib.hid hsep
  clear ht hs1 hs2 hs3 hs4 L1 D1 hM1 hM2 hbl hbd hsep
  go_enter Tryd.func7, Tryd.ntmps7
  go_wp2_with fail
  refine wp_region_ord [(0, 1), (2, 1), (1, 2), (3, 2), (4, 3), (5, 3)] [4, 5] 5 (by kernel_rfl) (by decide +kernel) ?_
  simp only [pickO, List.getElem?_cons_succ, List.getElem?_cons_zero]
  intro w0 hG
  (repeat ((first | (with_reducible refine ord_q1 ?_) | (with_reducible refine ord_q0 ?_)); intro K hK; first | (refine Or.inr ⟨?_, ?_⟩; (focus (go_simp; done)); go_simp; (with_reducible refine hK _ ?_); clear hK K) | (refine Or.inl ⟨?_, ?_⟩; (focus (go_simp; done)); apply Exists.intro; refine And.intro ?_ ?_; (focus (first | (intro wq hq; obtain ⟨hcq, hfq⟩ := G.old hq; go_simp; (first | done | exact rfl); done) | (intro wq; go_simp; (first | done | exact rfl); done))); go_simp; (with_reducible refine hK _ ?_); clear hK K) | fail))
  (with_reducible refine ord_run ?_ hG)
  intro K hK
  go_simp
  go_at_call 14; (with_reducible refine (S1.out _).mono ?_); rintro e' w1 ⟨rfl, hb1⟩
  replace hG := Grew.trans hG hb1
  (try dsimp only)
  (with_reducible refine hK _ _ hG ?_)
  clear hK K
  (repeat ((first | (with_reducible refine ord_q1 ?_) | (with_reducible refine ord_q0 ?_)); intro K hK; first | (refine Or.inr ⟨?_, ?_⟩; (focus (go_simp; done)); go_simp; (with_reducible refine hK _ ?_); clear hK K) | (refine Or.inl ⟨?_, ?_⟩; (focus (go_simp; done)); apply Exists.intro; refine And.intro ?_ ?_; (focus (first | (intro wq hq; obtain ⟨hcq, hfq⟩ := G.old hq; go_simp; (first | done | exact rfl); done) | (intro wq; go_simp; (first | done | exact rfl); done))); go_simp; (with_reducible refine hK _ ?_); clear hK K) | fail))
  (with_reducible refine ord_run ?_ hG)
  intro K hK
  go_simp
  go_at_call 14; (with_reducible refine (S2.out _).mono ?_); rintro e' w2 ⟨rfl, hb2⟩
  replace hG := Grew.trans hG hb2
  (try dsimp only)
  (with_reducible refine hK _ _ hG ?_)
  clear hK K
  (repeat ((first | (with_reducible refine ord_q1 ?_) | (with_reducible refine ord_q0 ?_)); intro K hK; first | (refine Or.inr ⟨?_, ?_⟩; (focus (go_simp; done)); go_simp; (with_reducible refine hK _ ?_); clear hK K) | (refine Or.inl ⟨?_, ?_⟩; (focus (go_simp; done)); apply Exists.intro; refine And.intro ?_ ?_; (focus (first | (intro wq hq; obtain ⟨hcq, hfq⟩ := G.old hq; go_simp; (first | done | exact rfl); done) | (intro wq; go_simp; (first | done | exact rfl); done))); go_simp; (with_reducible refine hK _ ?_); clear hK K) | fail))
  obtain ⟨hcG, hfG⟩ := G.old hG.b
  
  replace k0 := G.cell (a := ⟨w.heap.size, 0, none⟩) (v := .int .i64 e1) (by go_simp) hG.b
  replace k1 := G.cell (a := ⟨w.heap.size, 1, none⟩) (v := .slice A1 n1 c1) (by go_simp) hG.b
  replace k2 := G.cell (a := ⟨w.heap.size + 1, 0, none⟩) (v := .int .i64 e2) (by go_simp) hG.b
  replace k3 := G.cell (a := ⟨w.heap.size + 1, 1, none⟩) (v := .slice A2 n2 c2) (by go_simp) hG.b
  replace k4 := G.cell (a := ⟨w.heap.size + 1 + 1, 0, none⟩) (v := .slice B1 m1 d1) (by go_simp) hG.b
  replace k5 := G.cell (a := ⟨w.heap.size + 1 + 1, 1, none⟩) (v := .slice B2 m2 d2) (by go_simp) hG.b
  replace lt0 := cell_lt k0
  replace lt1 := cell_lt k1
  replace lt2 := cell_lt k2
  replace lt3 := cell_lt k3
  replace lt4 := cell_lt k4
  replace lt5 := cell_lt k5
  have hbw2 : Below w.heap.size w w2 := G.trans (by repeat (first | with_reducible assumption | with_reducible exact G.refl _ | with_reducible refine G.drew ?_ | with_reducible refine G.drewN ?_ _ | with_reducible refine G.alloc ?_ _ | with_reducible refine Below.setCell ?_ (by first | (simp; done) | (simp; omega)) _ | with_reducible refine G.trans ?_ hb12 | with_reducible refine G.trans ?_ hb11 | with_reducible refine G.trans ?_ hb10 | with_reducible refine G.trans ?_ hb9 | with_reducible refine G.trans ?_ hb8 | with_reducible refine G.trans ?_ hb7 | with_reducible refine G.trans ?_ hb6 | with_reducible refine G.trans ?_ hb5 | with_reducible refine G.trans ?_ hb4 | with_reducible refine G.trans ?_ hb3 | with_reducible refine G.trans ?_ hb2 | with_reducible refine G.trans ?_ hb1 | with_reducible refine G.trans ?_ hb | assumption)) hG.b
  ((with_reducible refine ord_tail ?_); intro K hK; go_simp; (with_reducible refine hK _ _ ?_); clear hK K)
  ((with_reducible refine ord_tail ?_); intro K hK; go_simp; (with_reducible refine hK _ _ ?_); clear hK K)
  (with_reducible refine ord_nil ?_)
  go_wp2_with fail
  refine calls_name (fun w3 => Below w.heap.size w w3 ∧ w3.cell? ⟨w.heap.size, 0, none⟩ = some (.int .i64 e1) ∧ w3.cell? ⟨w.heap.size, 1, none⟩ = some (.slice A1 N1 c1) ∧ w3.cell? ⟨w.heap.size + 1, 0, none⟩ = some (.int .i64 e2) ∧ w3.cell? ⟨w.heap.size + 1, 1, none⟩ = some (.slice A2 N2 c2) ∧ w3.cell? ⟨w.heap.size + 1 + 1, 0, none⟩ = some (.slice B1 m1 d1) ∧ w3.cell? ⟨w.heap.size + 1 + 1, 1, none⟩ = some (.slice B2 m2 d2)) ⟨by repeat (first | with_reducible assumption | with_reducible exact G.refl _ | with_reducible refine G.drew ?_ | with_reducible refine G.drewN ?_ _ | with_reducible refine G.alloc ?_ _ | with_reducible refine Below.setCell ?_ (by first | (simp; done) | (simp; omega)) _ | with_reducible refine G.trans ?_ hb12 | with_reducible refine G.trans ?_ hb11 | with_reducible refine G.trans ?_ hb10 | with_reducible refine G.trans ?_ hb9 | with_reducible refine G.trans ?_ hb8 | with_reducible refine G.trans ?_ hb7 | with_reducible refine G.trans ?_ hb6 | with_reducible refine G.trans ?_ hb5 | with_reducible refine G.trans ?_ hb4 | with_reducible refine G.trans ?_ hb3 | with_reducible refine G.trans ?_ hb2 | with_reducible refine G.trans ?_ hb1 | with_reducible refine G.trans ?_ hb | assumption), by go_simp, by go_simp, by go_simp, by go_simp, by go_simp, by go_simp⟩ ?_
  clear k0 k1 k2 k3 k4 k5 lt0 lt1 lt2 lt3 lt4 lt5 hcG hfG hbw2 hG hb1 hb2 w2 w1 w0
  rintro w1 ⟨hb, k0, k1, k2, k3, k4, k5⟩
  have hx1 := hy1.grow hb
  have hx2 := hy2.grow hb
  have hv1 := hu1.grow hb
  have hv2 := hu2.grow hb
  have ht1 := Lib.hid (htt.out.grow hb)
  have lt0 := cell_lt k0
  have lt2 := cell_lt k2
  have lt4 := cell_lt k4
  clear hy1 hy2 hu1 hu2 htt
  
  refine (known_any _ ht1.out).mono ?_
  rintro e' w2 ⟨rfl, hb2⟩
  replace k0 := G.cell (a := ⟨w.heap.size, 0, none⟩) (v := .int .i64 e1) (by go_simp) hb2
  replace k1 := G.cell (a := ⟨w.heap.size, 1, none⟩) (v := .slice A1 N1 c1) (by go_simp) hb2
  replace k2 := G.cell (a := ⟨w.heap.size + 1, 0, none⟩) (v := .int .i64 e2) (by go_simp) hb2
  replace k3 := G.cell (a := ⟨w.heap.size + 1, 1, none⟩) (v := .slice A2 N2 c2) (by go_simp) hb2
  replace k4 := G.cell (a := ⟨w.heap.size + 1 + 1, 0, none⟩) (v := .slice B1 m1 d1) (by go_simp) hb2
  replace k5 := G.cell (a := ⟨w.heap.size + 1 + 1, 1, none⟩) (v := .slice B2 m2 d2) (by go_simp) hb2
  replace lt0 := cell_lt k0
  replace lt1 := cell_lt k1
  replace lt2 := cell_lt k2
  replace lt3 := cell_lt k3
  replace lt4 := cell_lt k4
  replace lt5 := cell_lt k5
  go_wp2_with fail
  refine (L1'.out _ (by repeat (first | with_reducible assumption | with_reducible exact Sl.new' (by simp; done) (by simp; done) (by simp; done) | with_reducible refine Sl.drew ?_ | with_reducible refine Sl.drewN ?_ _ | with_reducible refine Sl.alloc ?_ _ | with_reducible refine Sl.grow ?_ hb12 | with_reducible refine Sl.grow ?_ hb11 | with_reducible refine Sl.grow ?_ hb10 | with_reducible refine Sl.grow ?_ hb9 | with_reducible refine Sl.grow ?_ hb8 | with_reducible refine Sl.grow ?_ hb7 | with_reducible refine Sl.grow ?_ hb6 | with_reducible refine Sl.grow ?_ hb5 | with_reducible refine Sl.grow ?_ hb4 | with_reducible refine Sl.grow ?_ hb3 | with_reducible refine Sl.grow ?_ hb2 | with_reducible refine Sl.grow ?_ hb1 | with_reducible refine Sl.grow ?_ hb | assumption)) (by repeat (first | with_reducible assumption | with_reducible exact Sl.new' (by simp; done) (by simp; done) (by simp; done) | with_reducible refine Sl.drew ?_ | with_reducible refine Sl.drewN ?_ _ | with_reducible refine Sl.alloc ?_ _ | with_reducible refine Sl.grow ?_ hb12 | with_reducible refine Sl.grow ?_ hb11 | with_reducible refine Sl.grow ?_ hb10 | with_reducible refine Sl.grow ?_ hb9 | with_reducible refine Sl.grow ?_ hb8 | with_reducible refine Sl.grow ?_ hb7 | with_reducible refine Sl.grow ?_ hb6 | with_reducible refine Sl.grow ?_ hb5 | with_reducible refine Sl.grow ?_ hb4 | with_reducible refine Sl.grow ?_ hb3 | with_reducible refine Sl.grow ?_ hb2 | with_reducible refine Sl.grow ?_ hb1 | with_reducible refine Sl.grow ?_ hb | assumption))).mono ?_
  rintro e' w3 ⟨rfl, hb3⟩
  replace k0 := G.cell (a := ⟨w.heap.size, 0, none⟩) (v := .int .i64 e1) (by go_simp) hb3
  replace k1 := G.cell (a := ⟨w.heap.size, 1, none⟩) (v := .slice A1 N1 c1) (by go_simp) hb3
  replace k2 := G.cell (a := ⟨w.heap.size + 1, 0, none⟩) (v := .int .i64 e2) (by go_simp) hb3
  replace k3 := G.cell (a := ⟨w.heap.size + 1, 1, none⟩) (v := .slice A2 N2 c2) (by go_simp) hb3
  replace k4 := G.cell (a := ⟨w.heap.size + 1 + 1, 0, none⟩) (v := .slice B1 m1 d1) (by go_simp) hb3
  replace k5 := G.cell (a := ⟨w.heap.size + 1 + 1, 1, none⟩) (v := .slice B2 m2 d2) (by go_simp) hb3
  replace lt0 := cell_lt k0
  replace lt1 := cell_lt k1
  replace lt2 := cell_lt k2
  replace lt3 := cell_lt k3
  replace lt4 := cell_lt k4
  replace lt5 := cell_lt k5
  cases bl
  · go_wp2_with fail
    refine (known_any _ (ht1.out.grow (by repeat (first | with_reducible assumption | with_reducible exact G.refl _ | with_reducible refine G.drew ?_ | with_reducible refine G.drewN ?_ _ | with_reducible refine G.alloc ?_ _ | with_reducible refine Below.setCell ?_ (by first | (simp; done) | (simp; omega)) _ | with_reducible refine G.trans ?_ hb12 | with_reducible refine G.trans ?_ hb11 | with_reducible refine G.trans ?_ hb10 | with_reducible refine G.trans ?_ hb9 | with_reducible refine G.trans ?_ hb8 | with_reducible refine G.trans ?_ hb7 | with_reducible refine G.trans ?_ hb6 | with_reducible refine G.trans ?_ hb5 | with_reducible refine G.trans ?_ hb4 | with_reducible refine G.trans ?_ hb3 | with_reducible refine G.trans ?_ hb2 | with_reducible refine G.trans ?_ hb1 | with_reducible refine G.trans ?_ hb | assumption)))).mono ?_
    rintro e' w4 ⟨rfl, hb4⟩
    go_wp2
    go_ret
    exact ⟨rfl, by repeat (first | with_reducible assumption | with_reducible exact G.refl _ | with_reducible refine G.drew ?_ | with_reducible refine G.drewN ?_ _ | with_reducible refine G.alloc ?_ _ | with_reducible refine Below.setCell ?_ (by first | (simp; done) | (simp; omega)) _ | with_reducible refine G.trans ?_ hb12 | with_reducible refine G.trans ?_ hb11 | with_reducible refine G.trans ?_ hb10 | with_reducible refine G.trans ?_ hb9 | with_reducible refine G.trans ?_ hb8 | with_reducible refine G.trans ?_ hb7 | with_reducible refine G.trans ?_ hb6 | with_reducible refine G.trans ?_ hb5 | with_reducible refine G.trans ?_ hb4 | with_reducible refine G.trans ?_ hb3 | with_reducible refine G.trans ?_ hb2 | with_reducible refine G.trans ?_ hb1 | with_reducible refine G.trans ?_ hb | assumption)⟩
  · go_wp2_with fail
    refine (D1'.out _ (by repeat (first | with_reducible assumption | with_reducible exact Sl.new' (by simp; done) (by simp; done) (by simp; done) | with_reducible refine Sl.drew ?_ | with_reducible refine Sl.drewN ?_ _ | with_reducible refine Sl.alloc ?_ _ | with_reducible refine Sl.grow ?_ hb12 | with_reducible refine Sl.grow ?_ hb11 | with_reducible refine Sl.grow ?_ hb10 | with_reducible refine Sl.grow ?_ hb9 | with_reducible refine Sl.grow ?_ hb8 | with_reducible refine Sl.grow ?_ hb7 | with_reducible refine Sl.grow ?_ hb6 | with_reducible refine Sl.grow ?_ hb5 | with_reducible refine Sl.grow ?_ hb4 | with_reducible refine Sl.grow ?_ hb3 | with_reducible refine Sl.grow ?_ hb2 | with_reducible refine Sl.grow ?_ hb1 | with_reducible refine Sl.grow ?_ hb | assumption)) (by repeat (first | with_reducible assumption | with_reducible exact Sl.new' (by simp; done) (by simp; done) (by simp; done) | with_reducible refine Sl.drew ?_ | with_reducible refine Sl.drewN ?_ _ | with_reducible refine Sl.alloc ?_ _ | with_reducible refine Sl.grow ?_ hb12 | with_reducible refine Sl.grow ?_ hb11 | with_reducible refine Sl.grow ?_ hb10 | with_reducible refine Sl.grow ?_ hb9 | with_reducible refine Sl.grow ?_ hb8 | with_reducible refine Sl.grow ?_ hb7 | with_reducible refine Sl.grow ?_ hb6 | with_reducible refine Sl.grow ?_ hb5 | with_reducible refine Sl.grow ?_ hb4 | with_reducible refine Sl.grow ?_ hb3 | with_reducible refine Sl.grow ?_ hb2 | with_reducible refine Sl.grow ?_ hb1 | with_reducible refine Sl.grow ?_ hb | assumption))).mono ?_
    rintro e' w4 ⟨rfl, hb4⟩
    replace k0 := G.cell (a := ⟨w.heap.size, 0, none⟩) (v := .int .i64 e1) (by go_simp) hb4
    replace k1 := G.cell (a := ⟨w.heap.size, 1, none⟩) (v := .slice A1 N1 c1) (by go_simp) hb4
    replace k2 := G.cell (a := ⟨w.heap.size + 1, 0, none⟩) (v := .int .i64 e2) (by go_simp) hb4
    replace k3 := G.cell (a := ⟨w.heap.size + 1, 1, none⟩) (v := .slice A2 N2 c2) (by go_simp) hb4
    replace k4 := G.cell (a := ⟨w.heap.size + 1 + 1, 0, none⟩) (v := .slice B1 m1 d1) (by go_simp) hb4
    replace k5 := G.cell (a := ⟨w.heap.size + 1 + 1, 1, none⟩) (v := .slice B2 m2 d2) (by go_simp) hb4
    replace lt0 := cell_lt k0
    replace lt1 := cell_lt k1
    replace lt2 := cell_lt k2
    replace lt3 := cell_lt k3
    replace lt4 := cell_lt k4
    replace lt5 := cell_lt k5
    cases bd
    · have hS : Hid (∀ us vs, cmpS e1 (ys1 ++ us) e2 (ys2 ++ vs) = -1) := hsep'.out (of_decide_eq_true hbl'.out) rfl
      have lt0 := cell_lt k0
      have lt2 := cell_lt k2
      have lt4 := cell_lt k4
      simp only at lt0 lt2 lt4
      have hbw4 : Below w.heap.size w w4 := by repeat (first | with_reducible assumption | with_reducible exact G.refl _ | with_reducible refine G.drew ?_ | with_reducible refine G.drewN ?_ _ | with_reducible refine G.alloc ?_ _ | with_reducible refine Below.setCell ?_ (by first | (simp; done) | (simp; omega)) _ | with_reducible refine G.trans ?_ hb12 | with_reducible refine G.trans ?_ hb11 | with_reducible refine G.trans ?_ hb10 | with_reducible refine G.trans ?_ hb9 | with_reducible refine G.trans ?_ hb8 | with_reducible refine G.trans ?_ hb7 | with_reducible refine G.trans ?_ hb6 | with_reducible refine G.trans ?_ hb5 | with_reducible refine G.trans ?_ hb4 | with_reducible refine G.trans ?_ hb3 | with_reducible refine G.trans ?_ hb2 | with_reducible refine G.trans ?_ hb1 | with_reducible refine G.trans ?_ hb | assumption)
      have hz1 : Sl w4 A1 N1 (i64s ys1) := by repeat (first | with_reducible assumption | with_reducible exact Sl.new' (by simp; done) (by simp; done) (by simp; done) | with_reducible refine Sl.drew ?_ | with_reducible refine Sl.drewN ?_ _ | with_reducible refine Sl.alloc ?_ _ | with_reducible refine Sl.grow ?_ hb12 | with_reducible refine Sl.grow ?_ hb11 | with_reducible refine Sl.grow ?_ hb10 | with_reducible refine Sl.grow ?_ hb9 | with_reducible refine Sl.grow ?_ hb8 | with_reducible refine Sl.grow ?_ hb7 | with_reducible refine Sl.grow ?_ hb6 | with_reducible refine Sl.grow ?_ hb5 | with_reducible refine Sl.grow ?_ hb4 | with_reducible refine Sl.grow ?_ hb3 | with_reducible refine Sl.grow ?_ hb2 | with_reducible refine Sl.grow ?_ hb1 | with_reducible refine Sl.grow ?_ hb | assumption)
      have hz2 : Sl w4 A2 N2 (i64s ys2) := by repeat (first | with_reducible assumption | with_reducible exact Sl.new' (by simp; done) (by simp; done) (by simp; done) | with_reducible refine Sl.drew ?_ | with_reducible refine Sl.drewN ?_ _ | with_reducible refine Sl.alloc ?_ _ | with_reducible refine Sl.grow ?_ hb12 | with_reducible refine Sl.grow ?_ hb11 | with_reducible refine Sl.grow ?_ hb10 | with_reducible refine Sl.grow ?_ hb9 | with_reducible refine Sl.grow ?_ hb8 | with_reducible refine Sl.grow ?_ hb7 | with_reducible refine Sl.grow ?_ hb6 | with_reducible refine Sl.grow ?_ hb5 | with_reducible refine Sl.grow ?_ hb4 | with_reducible refine Sl.grow ?_ hb3 | with_reducible refine Sl.grow ?_ hb2 | with_reducible refine Sl.grow ?_ hb1 | with_reducible refine Sl.grow ?_ hb | assumption)
      have hy1 : Sl w4 B1 M1 (i64s us1) := by repeat (first | with_reducible assumption | with_reducible exact Sl.new' (by simp; done) (by simp; done) (by simp; done) | with_reducible refine Sl.drew ?_ | with_reducible refine Sl.drewN ?_ _ | with_reducible refine Sl.alloc ?_ _ | with_reducible refine Sl.grow ?_ hb12 | with_reducible refine Sl.grow ?_ hb11 | with_reducible refine Sl.grow ?_ hb10 | with_reducible refine Sl.grow ?_ hb9 | with_reducible refine Sl.grow ?_ hb8 | with_reducible refine Sl.grow ?_ hb7 | with_reducible refine Sl.grow ?_ hb6 | with_reducible refine Sl.grow ?_ hb5 | with_reducible refine Sl.grow ?_ hb4 | with_reducible refine Sl.grow ?_ hb3 | with_reducible refine Sl.grow ?_ hb2 | with_reducible refine Sl.grow ?_ hb1 | with_reducible refine Sl.grow ?_ hb | assumption)
      have hy2 : Sl w4 B2 M2 (i64s us2) := by repeat (first | with_reducible assumption | with_reducible exact Sl.new' (by simp; done) (by simp; done) (by simp; done) | with_reducible refine Sl.drew ?_ | with_reducible refine Sl.drewN ?_ _ | with_reducible refine Sl.alloc ?_ _ | with_reducible refine Sl.grow ?_ hb12 | with_reducible refine Sl.grow ?_ hb11 | with_reducible refine Sl.grow ?_ hb10 | with_reducible refine Sl.grow ?_ hb9 | with_reducible refine Sl.grow ?_ hb8 | with_reducible refine Sl.grow ?_ hb7 | with_reducible refine Sl.grow ?_ hb6 | with_reducible refine Sl.grow ?_ hb5 | with_reducible refine Sl.grow ?_ hb4 | with_reducible refine Sl.grow ?_ hb3 | with_reducible refine Sl.grow ?_ hb2 | with_reducible refine Sl.grow ?_ hb1 | with_reducible refine Sl.grow ?_ hb | assumption)
      clear hb2 hb3 hb4 hx1 hx2 hv1 hv2
      go_upto_region 4 with (fail)
      go_cut [7, 8] (fun p q wx => ∃ b7 b8 A7 c7 A8 c8, p = .pointer (some ⟨b7, 0, none⟩) ∧ q = .pointer (some ⟨b8, 0, none⟩) ∧ wx.cell? ⟨b7, 0, none⟩ = some (.int .i64 e1) ∧ wx.cell? ⟨b7, 1, none⟩ = some (.slice A7 (N1 + M1) c7) ∧ wx.cell? ⟨b8, 0, none⟩ = some (.int .i64 e2) ∧ wx.cell? ⟨b8, 1, none⟩ = some (.slice A8 (N2 + M2) c8) ∧
        Sl wx A7 (N1 + M1) (i64s (ys1 ++ us1)) ∧ Sl wx A8 (N2 + M2) (i64s (ys2 ++ us2)) ∧ Below w4.heap.size w4 wx)
      case first =>
        refine wp_region_tree (.quiet 0 1 (.quiet 1 1 (.quiet 2 1 (.quiet 3 1 (.quiet 4 1 (.quiet 5 1 (.quiet 6 1 (.quiet 7 1 (.quiet 9 1 (.quiet 10 1 (.quiet 11 1 (.quiet 12 1 (.quiet 13 1 (.quiet 14 1 (.quiet 15 1 (.quiet 16 1 (.run 8 2 (.run 17 2 (.run 18 2 (.run 19 2 (.run 20 3 (.run 21 3 .nil .stop) .stop) .stop) (.run 19 2 (.run 18 2 (.run 20 3 (.run 21 3 .nil .stop) .stop) .stop) .stop)) (.run 18 2 (.run 17 2 (.run 19 2 (.run 20 3 (.run 21 3 .nil .stop) .stop) .stop) (.run 19 2 (.run 17 2 (.run 20 3 (.run 21 3 .nil .stop) .stop) .stop) .stop)) (.run 19 2 (.run 17 2 (.run 18 2 (.run 20 3 (.run 21 3 .nil .stop) .stop) .stop) (.run 18 2 (.run 17 2 (.run 20 3 (.run 21 3 .nil .stop) .stop) .stop) .stop)) .stop))) (.run 18 2 (.run 8 2 (.run 17 2 (.run 19 2 (.run 20 3 (.run 21 3 .nil .stop) .stop) .stop) (.run 19 2 (.run 17 2 (.run 20 3 (.run 21 3 .nil .stop) .stop) .stop) .stop)) (.run 19 2 (.run 8 2 (.run 17 2 (.run 20 3 (.run 21 3 .nil .stop) .stop) .stop) .stop) .stop)) (.run 19 2 (.run 8 2 (.run 17 2 (.run 18 2 (.run 20 3 (.run 21 3 .nil .stop) .stop) .stop) (.run 18 2 (.run 17 2 (.run 20 3 (.run 21 3 .nil .stop) .stop) .stop) .stop)) (.run 18 2 (.run 8 2 (.run 17 2 (.run 20 3 (.run 21 3 .nil .stop) .stop) .stop) .stop) .stop)) .stop))))))))))))))))))) [20, 21] 5 (by kernel_rfl) (by decide +kernel) ?_
        simp only [pickT, List.getElem?_cons_succ, List.getElem?_cons_zero]
        intro w0 hG
        have hG0 := hG.b
        have szG := hG0.size
        (try simp at szG)
        (repeat ((first | (with_reducible refine tree_q1 ?_) | (with_reducible refine tree_q0 ?_)); intro K hK; first | (refine Or.inr ⟨?_, ?_⟩; (focus (go_simp; done)); go_simp; (with_reducible refine hK _ ?_); clear hK K) | (refine Or.inl ⟨?_, ?_⟩; (focus (go_simp; done)); apply Exists.intro; refine And.intro ?_ ?_; (focus (first | (intro wq hq; obtain ⟨hcq, hfq⟩ := G.old hq; go_simp; (first | done | exact rfl); done) | (intro wq; go_simp; (first | done | exact rfl); done))); go_simp; (with_reducible refine hK _ ?_); clear hK K) | fail))
        (with_reducible refine tree_run hG ?_ ?_)
        · intro K hK
          go_simp
          go_at_call 20; (with_reducible refine (J1.out _ (hz1.grow hG.b) (hy1.grow hG.b)).mono ?_); rintro e' w8 ⟨A7, c7, rfl, hs7, hl7, hm7, ha7, hb8⟩; have szb8 := hb8.size; (try simp at szb8); obtain ⟨hcx8, hfx8⟩ := G.old hb8; (try ((with_reducible refine have_intro (p := w4.heap.size < w8.heap.size) ?_ ?_); (focus (omega; done)); intro l81)); (try ((with_reducible refine have_intro (p := w0.heap.size < w8.heap.size) ?_ ?_); (focus (omega; done)); intro l82)); (try ((with_reducible refine have_intro (p := w0.heap.size + 1 < w8.heap.size) ?_ ?_); (focus (omega; done)); intro l83)); (try ((with_reducible refine have_intro (p := w8.cell? ⟨w0.heap.size, 0, none⟩ = some (.int .i64 0)) ?_ ?_); (focus (refine G.cell ?_ hb8; go_simp; done)); intro qa0)); (try ((with_reducible refine have_intro (p := w8.cell? ⟨w0.heap.size, 1, none⟩ = some (.slice none 0 0)) ?_ ?_); (focus (refine G.cell ?_ hb8; go_simp; done)); intro qa1)); (try ((with_reducible refine have_intro (p := w8.cell? ⟨w0.heap.size + 1, 0, none⟩ = some (.int .i64 0)) ?_ ?_); (focus (refine G.cell ?_ hb8; go_simp; done)); intro qa2)); (try ((with_reducible refine have_intro (p := w8.cell? ⟨w0.heap.size + 1, 1, none⟩ = some (.slice none 0 0)) ?_ ?_); (focus (refine G.cell ?_ hb8; go_simp; done)); intro qa3))
          replace hG := Grew.trans hG hb8
          (try dsimp only)
          (with_reducible refine hK _ _ hG ?_)
          clear hK K
          (with_reducible refine tree_run hG ?_ ?_)
          · intro K hK
            go_simp
            go_at_call 20; (with_reducible refine (J2.out _ (hz2.grow hG.b) (hy2.grow hG.b)).mono ?_); rintro e' w9 ⟨A8, c8, rfl, hs8, hl8, hm8, ha8, hb9⟩; have szb9 := hb9.size; (try simp at szb9); obtain ⟨hcx9, hfx9⟩ := G.old hb9; (try ((with_reducible refine have_intro (p := w4.heap.size < w9.heap.size) ?_ ?_); (focus (omega; done)); intro l91)); (try ((with_reducible refine have_intro (p := w4.heap.size + 1 < w9.heap.size) ?_ ?_); (focus (omega; done)); intro l92)); (try ((with_reducible refine have_intro (p := w8.heap.size < w9.heap.size) ?_ ?_); (focus (omega; done)); intro l93)); (try ((with_reducible refine have_intro (p := w8.heap.size + 1 < w9.heap.size) ?_ ?_); (focus (omega; done)); intro l94)); (try ((with_reducible refine have_intro (p := w0.heap.size < w9.heap.size) ?_ ?_); (focus (omega; done)); intro l95)); (try ((with_reducible refine have_intro (p := w0.heap.size + 1 < w9.heap.size) ?_ ?_); (focus (omega; done)); intro l96)); (try ((with_reducible refine have_intro (p := w9.cell? ⟨w0.heap.size, 0, none⟩ = some (.int .i64 0)) ?_ ?_); (focus (refine G.cell ?_ hb9; go_simp; done)); intro qb0)); (try ((with_reducible refine have_intro (p := w9.cell? ⟨w0.heap.size, 1, none⟩ = some (.slice none 0 0)) ?_ ?_); (focus (refine G.cell ?_ hb9; go_simp; done)); intro qb1)); (try ((with_reducible refine have_intro (p := w9.cell? ⟨w0.heap.size + 1, 0, none⟩ = some (.int .i64 0)) ?_ ?_); (focus (refine G.cell ?_ hb9; go_simp; done)); intro qb2)); (try ((with_reducible refine have_intro (p := w9.cell? ⟨w0.heap.size + 1, 1, none⟩ = some (.slice none 0 0)) ?_ ?_); (focus (refine G.cell ?_ hb9; go_simp; done)); intro qb3)); (try ((with_reducible refine have_intro (p := w9.cell? ⟨w8.heap.size, 0, none⟩ = some (.int .i64 0)) ?_ ?_); (focus (refine G.cell ?_ hb9; go_simp; done)); intro qb4)); (try ((with_reducible refine have_intro (p := w9.cell? ⟨w8.heap.size, 1, none⟩ = some (.slice none 0 0)) ?_ ?_); (focus (refine G.cell ?_ hb9; go_simp; done)); intro qb5)); (try ((with_reducible refine have_intro (p := w9.cell? ⟨w8.heap.size + 1, 0, none⟩ = some (.int .i64 0)) ?_ ?_); (focus (refine G.cell ?_ hb9; go_simp; done)); intro qb6)); (try ((with_reducible refine have_intro (p := w9.cell? ⟨w8.heap.size + 1, 1, none⟩ = some (.slice none 0 0)) ?_ ?_); (focus (refine G.cell ?_ hb9; go_simp; done)); intro qb7))
            replace hG := Grew.trans hG hb9
            (try dsimp only)
            (with_reducible refine hK _ _ hG ?_)
            clear hK K
            (with_reducible refine tree_run hG ?_ ?_)
            · intro K hK
              go_simp
              replace hG := Grew.alloc hG (.cells #[.int .i64 0, .slice none 0 0] 24)
              (with_reducible refine hK _ _ hG ?_)
              clear hK K
              (with_reducible refine tree_run hG ?_ ?_)
              · intro K hK
                go_simp
                replace hG := Grew.alloc hG (.cells #[.int .i64 0, .slice none 0 0] 24)
                (with_reducible refine hK _ _ hG ?_)
                clear hK K
                (with_reducible refine tree_tail ?_ ?_)
                · intro K hK
                  go_simp
                  (with_reducible refine hK _ _ ?_)
                  clear hK K
                  (with_reducible refine tree_tail ?_ ?_)
                  · intro K hK
                    go_simp
                    (with_reducible refine hK _ _ ?_)
                    clear hK K
                    (with_reducible refine tree_nil ?_)
                    go_wp2_with fail
                    go_meet
                    refine ⟨_, _, A7, c7, A8, c8, rfl, rfl, by go_simp, by go_simp, by go_simp, by go_simp, ?_, ?_, ?_⟩
                    · repeat (first | with_reducible assumption | with_reducible refine Sl.alloc ?_ _ | with_reducible refine Sl.setCellNew ?_ hs7 (by first | (simp; done) | (simp; omega)) _ | with_reducible refine Sl.setCell ?_ ha7 (by first | (simp; done) | (simp; omega)) _ | with_reducible refine Sl.grow ?_ hb9 | with_reducible refine Sl.grow ?_ hb8 | assumption)
                    · repeat (first | with_reducible assumption | with_reducible refine Sl.alloc ?_ _ | with_reducible refine Sl.setCellNew ?_ hs8 (by first | (simp; done) | (simp; omega)) _ | with_reducible refine Sl.setCell ?_ ha8 (by first | (simp; done) | (simp; omega)) _ | with_reducible refine Sl.grow ?_ hb9 | with_reducible refine Sl.grow ?_ hb8 | assumption)
                    · (repeat (first | with_reducible exact hG0 | with_reducible exact hG.b | with_reducible refine G.alloc ?_ _ | with_reducible refine Below.setCell ?_ (by first | (simp; done) | (simp; omega)) _ | with_reducible refine G.trans ?_ hb9 | with_reducible refine G.trans ?_ hb8))
                  exact tree_stop
                exact tree_stop
              exact tree_stop
            (with_reducible refine tree_run hG ?_ ?_)
            · intro K hK
              go_simp
              replace hG := Grew.alloc hG (.cells #[.int .i64 0, .slice none 0 0] 24)
              (with_reducible refine hK _ _ hG ?_)
              clear hK K
              (with_reducible refine tree_run hG ?_ ?_)
              · intro K hK
                go_simp
                replace hG := Grew.alloc hG (.cells #[.int .i64 0, .slice none 0 0] 24)
                (with_reducible refine hK _ _ hG ?_)
                clear hK K
                (with_reducible refine tree_tail ?_ ?_)
                · intro K hK
                  go_simp
                  (with_reducible refine hK _ _ ?_)
                  clear hK K
                  (with_reducible refine tree_tail ?_ ?_)
                  · intro K hK
                    go_simp
                    (with_reducible refine hK _ _ ?_)
                    clear hK K
                    (with_reducible refine tree_nil ?_)
                    go_wp2_with fail
                    go_meet
                    refine ⟨_, _, A7, c7, A8, c8, rfl, rfl, by go_simp, by go_simp, by go_simp, by go_simp, ?_, ?_, ?_⟩
                    · repeat (first | with_reducible assumption | with_reducible refine Sl.alloc ?_ _ | with_reducible refine Sl.setCellNew ?_ hs7 (by first | (simp; done) | (simp; omega)) _ | with_reducible refine Sl.setCell ?_ ha7 (by first | (simp; done) | (simp; omega)) _ | with_reducible refine Sl.grow ?_ hb9 | with_reducible refine Sl.grow ?_ hb8 | assumption)
                    · repeat (first | with_reducible assumption | with_reducible refine Sl.alloc ?_ _ | with_reducible refine Sl.setCellNew ?_ hs8 (by first | (simp; done) | (simp; omega)) _ | with_reducible refine Sl.setCell ?_ ha8 (by first | (simp; done) | (simp; omega)) _ | with_reducible refine Sl.grow ?_ hb9 | with_reducible refine Sl.grow ?_ hb8 | assumption)
                    · (repeat (first | with_reducible exact hG0 | with_reducible exact hG.b | with_reducible refine G.alloc ?_ _ | with_reducible refine Below.setCell ?_ (by first | (simp; done) | (simp; omega)) _ | with_reducible refine G.trans ?_ hb9 | with_reducible refine G.trans ?_ hb8))
                  exact tree_stop
                exact tree_stop
              exact tree_stop
            exact tree_stop
          (with_reducible refine tree_run hG ?_ ?_)
          · intro K hK
            go_simp
            replace hG := Grew.alloc hG (.cells #[.int .i64 0, .slice none 0 0] 24)
            (with_reducible refine hK _ _ hG ?_)
            clear hK K
            (with_reducible refine tree_run hG ?_ ?_)
            · intro K hK
              go_simp
              go_at_call 20; (with_reducible refine (J2.out _ (hz2.grow hG.b) (hy2.grow hG.b)).mono ?_); rintro e' w9 ⟨A8, c8, rfl, hs8, hl8, hm8, ha8, hb9⟩; have szb9 := hb9.size; (try simp at szb9); obtain ⟨hcx9, hfx9⟩ := G.old hb9; (try ((with_reducible refine have_intro (p := w4.heap.size < w9.heap.size) ?_ ?_); (focus (omega; done)); intro l91)); (try ((with_reducible refine have_intro (p := w4.heap.size + 1 < w9.heap.size) ?_ ?_); (focus (omega; done)); intro l92)); (try ((with_reducible refine have_intro (p := w8.heap.size < w9.heap.size) ?_ ?_); (focus (omega; done)); intro l93)); (try ((with_reducible refine have_intro (p := w8.heap.size + 1 < w9.heap.size) ?_ ?_); (focus (omega; done)); intro l94)); (try ((with_reducible refine have_intro (p := w0.heap.size < w9.heap.size) ?_ ?_); (focus (omega; done)); intro l95)); (try ((with_reducible refine have_intro (p := w0.heap.size + 1 < w9.heap.size) ?_ ?_); (focus (omega; done)); intro l96)); (try ((with_reducible refine have_intro (p := w9.cell? ⟨w0.heap.size, 0, none⟩ = some (.int .i64 0)) ?_ ?_); (focus (refine G.cell ?_ hb9; go_simp; done)); intro qb0)); (try ((with_reducible refine have_intro (p := w9.cell? ⟨w0.heap.size, 1, none⟩ = some (.slice none 0 0)) ?_ ?_); (focus (refine G.cell ?_ hb9; go_simp; done)); intro qb1)); (try ((with_reducible refine have_intro (p := w9.cell? ⟨w0.heap.size + 1, 0, none⟩ = some (.int .i64 0)) ?_ ?_); (focus (refine G.cell ?_ hb9; go_simp; done)); intro qb2)); (try ((with_reducible refine have_intro (p := w9.cell? ⟨w0.heap.size + 1, 1, none⟩ = some (.slice none 0 0)) ?_ ?_); (focus (refine G.cell ?_ hb9; go_simp; done)); intro qb3)); (try ((with_reducible refine have_intro (p := w9.cell? ⟨w8.heap.size, 0, none⟩ = some (.int .i64 0)) ?_ ?_); (focus (refine G.cell ?_ hb9; go_simp; done)); intro qb4)); (try ((with_reducible refine have_intro (p := w9.cell? ⟨w8.heap.size, 1, none⟩ = some (.slice none 0 0)) ?_ ?_); (focus (refine G.cell ?_ hb9; go_simp; done)); intro qb5)); (try ((with_reducible refine have_intro (p := w9.cell? ⟨w8.heap.size + 1, 0, none⟩ = some (.int .i64 0)) ?_ ?_); (focus (refine G.cell ?_ hb9; go_simp; done)); intro qb6)); (try ((with_reducible refine have_intro (p := w9.cell? ⟨w8.heap.size + 1, 1, none⟩ = some (.slice none 0 0)) ?_ ?_); (focus (refine G.cell ?_ hb9; go_simp; done)); intro qb7))
              replace hG := Grew.trans hG hb9
              (try dsimp only)
              (with_reducible refine hK _ _ hG ?_)
              clear hK K
              (with_reducible refine tree_run hG ?_ ?_)
              · intro K hK
                go_simp
                replace hG := Grew.alloc hG (.cells #[.int .i64 0, .slice none 0 0] 24)
                (with_reducible refine hK _ _ hG ?_)
                clear hK K
                (with_reducible refine tree_tail ?_ ?_)
                · intro K hK
                  go_simp
                  (with_reducible refine hK _ _ ?_)
                  clear hK K
                  (with_reducible refine tree_tail ?_ ?_)
                  · intro K hK
                    go_simp
                    (with_reducible refine hK _ _ ?_)
                    clear hK K
                    (with_reducible refine tree_nil ?_)
                    go_wp2_with fail
                    go_meet
                    refine ⟨_, _, A7, c7, A8, c8, rfl, rfl, by go_simp, by go_simp, by go_simp, by go_simp, ?_, ?_, ?_⟩
                    · repeat (first | with_reducible assumption | with_reducible refine Sl.alloc ?_ _ | with_reducible refine Sl.setCellNew ?_ hs7 (by first | (simp; done) | (simp; omega)) _ | with_reducible refine Sl.setCell ?_ ha7 (by first | (simp; done) | (simp; omega)) _ | with_reducible refine Sl.grow ?_ hb9 | with_reducible refine Sl.grow ?_ hb8 | assumption)
                    · repeat (first | with_reducible assumption | with_reducible refine Sl.alloc ?_ _ | with_reducible refine Sl.setCellNew ?_ hs8 (by first | (simp; done) | (simp; omega)) _ | with_reducible refine Sl.setCell ?_ ha8 (by first | (simp; done) | (simp; omega)) _ | with_reducible refine Sl.grow ?_ hb9 | with_reducible refine Sl.grow ?_ hb8 | assumption)
                    · (repeat (first | with_reducible exact hG0 | with_reducible exact hG.b | with_reducible refine G.alloc ?_ _ | with_reducible refine Below.setCell ?_ (by first | (simp; done) | (simp; omega)) _ | with_reducible refine G.trans ?_ hb9 | with_reducible refine G.trans ?_ hb8))
                  exact tree_stop
                exact tree_stop
              exact tree_stop
            (with_reducible refine tree_run hG ?_ ?_)
            · intro K hK
              go_simp
              replace hG := Grew.alloc hG (.cells #[.int .i64 0, .slice none 0 0] 24)
              (with_reducible refine hK _ _ hG ?_)
              clear hK K
              (with_reducible refine tree_run hG ?_ ?_)
              · intro K hK
                go_simp
                go_at_call 20; (with_reducible refine (J2.out _ (hz2.grow hG.b) (hy2.grow hG.b)).mono ?_); rintro e' w9 ⟨A8, c8, rfl, hs8, hl8, hm8, ha8, hb9⟩; have szb9 := hb9.size; (try simp at szb9); obtain ⟨hcx9, hfx9⟩ := G.old hb9; (try ((with_reducible refine have_intro (p := w4.heap.size < w9.heap.size) ?_ ?_); (focus (omega; done)); intro l91)); (try ((with_reducible refine have_intro (p := w4.heap.size + 1 < w9.heap.size) ?_ ?_); (focus (omega; done)); intro l92)); (try ((with_reducible refine have_intro (p := w8.heap.size < w9.heap.size) ?_ ?_); (focus (omega; done)); intro l93)); (try ((with_reducible refine have_intro (p := w8.heap.size + 1 < w9.heap.size) ?_ ?_); (focus (omega; done)); intro l94)); (try ((with_reducible refine have_intro (p := w0.heap.size < w9.heap.size) ?_ ?_); (focus (omega; done)); intro l95)); (try ((with_reducible refine have_intro (p := w0.heap.size + 1 < w9.heap.size) ?_ ?_); (focus (omega; done)); intro l96)); (try ((with_reducible refine have_intro (p := w9.cell? ⟨w0.heap.size, 0, none⟩ = some (.int .i64 0)) ?_ ?_); (focus (refine G.cell ?_ hb9; go_simp; done)); intro qb0)); (try ((with_reducible refine have_intro (p := w9.cell? ⟨w0.heap.size, 1, none⟩ = some (.slice none 0 0)) ?_ ?_); (focus (refine G.cell ?_ hb9; go_simp; done)); intro qb1)); (try ((with_reducible refine have_intro (p := w9.cell? ⟨w0.heap.size + 1, 0, none⟩ = some (.int .i64 0)) ?_ ?_); (focus (refine G.cell ?_ hb9; go_simp; done)); intro qb2)); (try ((with_reducible refine have_intro (p := w9.cell? ⟨w0.heap.size + 1, 1, none⟩ = some (.slice none 0 0)) ?_ ?_); (focus (refine G.cell ?_ hb9; go_simp; done)); intro qb3)); (try ((with_reducible refine have_intro (p := w9.cell? ⟨w8.heap.size, 0, none⟩ = some (.int .i64 0)) ?_ ?_); (focus (refine G.cell ?_ hb9; go_simp; done)); intro qb4)); (try ((with_reducible refine have_intro (p := w9.cell? ⟨w8.heap.size, 1, none⟩ = some (.slice none 0 0)) ?_ ?_); (focus (refine G.cell ?_ hb9; go_simp; done)); intro qb5)); (try ((with_reducible refine have_intro (p := w9.cell? ⟨w8.heap.size + 1, 0, none⟩ = some (.int .i64 0)) ?_ ?_); (focus (refine G.cell ?_ hb9; go_simp; done)); intro qb6)); (try ((with_reducible refine have_intro (p := w9.cell? ⟨w8.heap.size + 1, 1, none⟩ = some (.slice none 0 0)) ?_ ?_); (focus (refine G.cell ?_ hb9; go_simp; done)); intro qb7))
                replace hG := Grew.trans hG hb9
                (try dsimp only)
                (with_reducible refine hK _ _ hG ?_)
                clear hK K
                (with_reducible refine tree_tail ?_ ?_)
                · intro K hK
                  go_simp
                  (with_reducible refine hK _ _ ?_)
                  clear hK K
                  (with_reducible refine tree_tail ?_ ?_)
                  · intro K hK
                    go_simp
                    (with_reducible refine hK _ _ ?_)
                    clear hK K
                    (with_reducible refine tree_nil ?_)
                    go_wp2_with fail
                    go_meet
                    refine ⟨_, _, A7, c7, A8, c8, rfl, rfl, by go_simp, by go_simp, by go_simp, by go_simp, ?_, ?_, ?_⟩
                    · repeat (first | with_reducible assumption | with_reducible refine Sl.alloc ?_ _ | with_reducible refine Sl.setCellNew ?_ hs7 (by first | (simp; done) | (simp; omega)) _ | with_reducible refine Sl.setCell ?_ ha7 (by first | (simp; done) | (simp; omega)) _ | with_reducible refine Sl.grow ?_ hb9 | with_reducible refine Sl.grow ?_ hb8 | assumption)
                    · repeat (first | with_reducible assumption | with_reducible refine Sl.alloc ?_ _ | with_reducible refine Sl.setCellNew ?_ hs8 (by first | (simp; done) | (simp; omega)) _ | with_reducible refine Sl.setCell ?_ ha8 (by first | (simp; done) | (simp; omega)) _ | with_reducible refine Sl.grow ?_ hb9 | with_reducible refine Sl.grow ?_ hb8 | assumption)
                    · (repeat (first | with_reducible exact hG0 | with_reducible exact hG.b | with_reducible refine G.alloc ?_ _ | with_reducible refine Below.setCell ?_ (by first | (simp; done) | (simp; omega)) _ | with_reducible refine G.trans ?_ hb9 | with_reducible refine G.trans ?_ hb8))
                  exact tree_stop
                exact tree_stop
              exact tree_stop
            exact tree_stop
          (with_reducible refine tree_run hG ?_ ?_)
          · intro K hK
            go_simp
            replace hG := Grew.alloc hG (.cells #[.int .i64 0, .slice none 0 0] 24)
            (with_reducible refine hK _ _ hG ?_)
            clear hK K
            (with_reducible refine tree_run hG ?_ ?_)
            · intro K hK
              go_simp
              go_at_call 20; (with_reducible refine (J2.out _ (hz2.grow hG.b) (hy2.grow hG.b)).mono ?_); rintro e' w9 ⟨A8, c8, rfl, hs8, hl8, hm8, ha8, hb9⟩; have szb9 := hb9.size; (try simp at szb9); obtain ⟨hcx9, hfx9⟩ := G.old hb9; (try ((with_reducible refine have_intro (p := w4.heap.size < w9.heap.size) ?_ ?_); (focus (omega; done)); intro l91)); (try ((with_reducible refine have_intro (p := w4.heap.size + 1 < w9.heap.size) ?_ ?_); (focus (omega; done)); intro l92)); (try ((with_reducible refine have_intro (p := w8.heap.size < w9.heap.size) ?_ ?_); (focus (omega; done)); intro l93)); (try ((with_reducible refine have_intro (p := w8.heap.size + 1 < w9.heap.size) ?_ ?_); (focus (omega; done)); intro l94)); (try ((with_reducible refine have_intro (p := w0.heap.size < w9.heap.size) ?_ ?_); (focus (omega; done)); intro l95)); (try ((with_reducible refine have_intro (p := w0.heap.size + 1 < w9.heap.size) ?_ ?_); (focus (omega; done)); intro l96)); (try ((with_reducible refine have_intro (p := w9.cell? ⟨w0.heap.size, 0, none⟩ = some (.int .i64 0)) ?_ ?_); (focus (refine G.cell ?_ hb9; go_simp; done)); intro qb0)); (try ((with_reducible refine have_intro (p := w9.cell? ⟨w0.heap.size, 1, none⟩ = some (.slice none 0 0)) ?_ ?_); (focus (refine G.cell ?_ hb9; go_simp; done)); intro qb1)); (try ((with_reducible refine have_intro (p := w9.cell? ⟨w0.heap.size + 1, 0, none⟩ = some (.int .i64 0)) ?_ ?_); (focus (refine G.cell ?_ hb9; go_simp; done)); intro qb2)); (try ((with_reducible refine have_intro (p := w9.cell? ⟨w0.heap.size + 1, 1, none⟩ = some (.slice none 0 0)) ?_ ?_); (focus (refine G.cell ?_ hb9; go_simp; done)); intro qb3)); (try ((with_reducible refine have_intro (p := w9.cell? ⟨w8.heap.size, 0, none⟩ = some (.int .i64 0)) ?_ ?_); (focus (refine G.cell ?_ hb9; go_simp; done)); intro qb4)); (try ((with_reducible refine have_intro (p := w9.cell? ⟨w8.heap.size, 1, none⟩ = some (.slice none 0 0)) ?_ ?_); (focus (refine G.cell ?_ hb9; go_simp; done)); intro qb5)); (try ((with_reducible refine have_intro (p := w9.cell? ⟨w8.heap.size + 1, 0, none⟩ = some (.int .i64 0)) ?_ ?_); (focus (refine G.cell ?_ hb9; go_simp; done)); intro qb6)); (try ((with_reducible refine have_intro (p := w9.cell? ⟨w8.heap.size + 1, 1, none⟩ = some (.slice none 0 0)) ?_ ?_); (focus (refine G.cell ?_ hb9; go_simp; done)); intro qb7))
              replace hG := Grew.trans hG hb9
              (try dsimp only)
              (with_reducible refine hK _ _ hG ?_)
              clear hK K
              (with_reducible refine tree_run hG ?_ ?_)
              · intro K hK
                go_simp
                replace hG := Grew.alloc hG (.cells #[.int .i64 0, .slice none 0 0] 24)
                (with_reducible refine hK _ _ hG ?_)
                clear hK K
                (with_reducible refine tree_tail ?_ ?_)
                · intro K hK
                  go_simp
                  (with_reducible refine hK _ _ ?_)
                  clear hK K
                  (with_reducible refine tree_tail ?_ ?_)
                  · intro K hK
                    go_simp
                    (with_reducible refine hK _ _ ?_)
                    clear hK K
                    (with_reducible refine tree_nil ?_)
                    go_wp2_with fail
                    go_meet
                    refine ⟨_, _, A7, c7, A8, c8, rfl, rfl, by go_simp, by go_simp, by go_simp, by go_simp, ?_, ?_, ?_⟩
                    · repeat (first | with_reducible assumption | with_reducible refine Sl.alloc ?_ _ | with_reducible refine Sl.setCellNew ?_ hs7 (by first | (simp; done) | (simp; omega)) _ | with_reducible refine Sl.setCell ?_ ha7 (by first | (simp; done) | (simp; omega)) _ | with_reducible refine Sl.grow ?_ hb9 | with_reducible refine Sl.grow ?_ hb8 | assumption)
                    · repeat (first | with_reducible assumption | with_reducible refine Sl.alloc ?_ _ | with_reducible refine Sl.setCellNew ?_ hs8 (by first | (simp; done) | (simp; omega)) _ | with_reducible refine Sl.setCell ?_ ha8 (by first | (simp; done) | (simp; omega)) _ | with_reducible refine Sl.grow ?_ hb9 | with_reducible refine Sl.grow ?_ hb8 | assumption)
                    · (repeat (first | with_reducible exact hG0 | with_reducible exact hG.b | with_reducible refine G.alloc ?_ _ | with_reducible refine Below.setCell ?_ (by first | (simp; done) | (simp; omega)) _ | with_reducible refine G.trans ?_ hb9 | with_reducible refine G.trans ?_ hb8))
                  exact tree_stop
                exact tree_stop
              exact tree_stop
            (with_reducible refine tree_run hG ?_ ?_)
            · intro K hK
              go_simp
              replace hG := Grew.alloc hG (.cells #[.int .i64 0, .slice none 0 0] 24)
              (with_reducible refine hK _ _ hG ?_)
              clear hK K
              (with_reducible refine tree_run hG ?_ ?_)
              · intro K hK
                go_simp
                go_at_call 20; (with_reducible refine (J2.out _ (hz2.grow hG.b) (hy2.grow hG.b)).mono ?_); rintro e' w9 ⟨A8, c8, rfl, hs8, hl8, hm8, ha8, hb9⟩; have szb9 := hb9.size; (try simp at szb9); obtain ⟨hcx9, hfx9⟩ := G.old hb9; (try ((with_reducible refine have_intro (p := w4.heap.size < w9.heap.size) ?_ ?_); (focus (omega; done)); intro l91)); (try ((with_reducible refine have_intro (p := w4.heap.size + 1 < w9.heap.size) ?_ ?_); (focus (omega; done)); intro l92)); (try ((with_reducible refine have_intro (p := w8.heap.size < w9.heap.size) ?_ ?_); (focus (omega; done)); intro l93)); (try ((with_reducible refine have_intro (p := w8.heap.size + 1 < w9.heap.size) ?_ ?_); (focus (omega; done)); intro l94)); (try ((with_reducible refine have_intro (p := w0.heap.size < w9.heap.size) ?_ ?_); (focus (omega; done)); intro l95)); (try ((with_reducible refine have_intro (p := w0.heap.size + 1 < w9.heap.size) ?_ ?_); (focus (omega; done)); intro l96)); (try ((with_reducible refine have_intro (p := w9.cell? ⟨w0.heap.size, 0, none⟩ = some (.int .i64 0)) ?_ ?_); (focus (refine G.cell ?_ hb9; go_simp; done)); intro qb0)); (try ((with_reducible refine have_intro (p := w9.cell? ⟨w0.heap.size, 1, none⟩ = some (.slice none 0 0)) ?_ ?_); (focus (refine G.cell ?_ hb9; go_simp; done)); intro qb1)); (try ((with_reducible refine have_intro (p := w9.cell? ⟨w0.heap.size + 1, 0, none⟩ = some (.int .i64 0)) ?_ ?_); (focus (refine G.cell ?_ hb9; go_simp; done)); intro qb2)); (try ((with_reducible refine have_intro (p := w9.cell? ⟨w0.heap.size + 1, 1, none⟩ = some (.slice none 0 0)) ?_ ?_); (focus (refine G.cell ?_ hb9; go_simp; done)); intro qb3)); (try ((with_reducible refine have_intro (p := w9.cell? ⟨w8.heap.size, 0, none⟩ = some (.int .i64 0)) ?_ ?_); (focus (refine G.cell ?_ hb9; go_simp; done)); intro qb4)); (try ((with_reducible refine have_intro (p := w9.cell? ⟨w8.heap.size, 1, none⟩ = some (.slice none 0 0)) ?_ ?_); (focus (refine G.cell ?_ hb9; go_simp; done)); intro qb5)); (try ((with_reducible refine have_intro (p := w9.cell? ⟨w8.heap.size + 1, 0, none⟩ = some (.int .i64 0)) ?_ ?_); (focus (refine G.cell ?_ hb9; go_simp; done)); intro qb6)); (try ((with_reducible refine have_intro (p := w9.cell? ⟨w8.heap.size + 1, 1, none⟩ = some (.slice none 0 0)) ?_ ?_); (focus (refine G.cell ?_ hb9; go_simp; done)); intro qb7))
                replace hG := Grew.trans hG hb9
                (try dsimp only)
                (with_reducible refine hK _ _ hG ?_)
                clear hK K
                (with_reducible refine tree_tail ?_ ?_)
                · intro K hK
                  go_simp
                  (with_reducible refine hK _ _ ?_)
                  clear hK K
                  (with_reducible refine tree_tail ?_ ?_)
                  · intro K hK
                    go_simp
                    (with_reducible refine hK _ _ ?_)
                    clear hK K
                    (with_reducible refine tree_nil ?_)
                    go_wp2_with fail
                    go_meet
                    refine ⟨_, _, A7, c7, A8, c8, rfl, rfl, by go_simp, by go_simp, by go_simp, by go_simp, ?_, ?_, ?_⟩
                    · repeat (first | with_reducible assumption | with_reducible refine Sl.alloc ?_ _ | with_reducible refine Sl.setCellNew ?_ hs7 (by first | (simp; done) | (simp; omega)) _ | with_reducible refine Sl.setCell ?_ ha7 (by first | (simp; done) | (simp; omega)) _ | with_reducible refine Sl.grow ?_ hb9 | with_reducible refine Sl.grow ?_ hb8 | assumption)
                    · repeat (first | with_reducible assumption | with_reducible refine Sl.alloc ?_ _ | with_reducible refine Sl.setCellNew ?_ hs8 (by first | (simp; done) | (simp; omega)) _ | with_reducible refine Sl.setCell ?_ ha8 (by first | (simp; done) | (simp; omega)) _ | with_reducible refine Sl.grow ?_ hb9 | with_reducible refine Sl.grow ?_ hb8 | assumption)
                    · (repeat (first | with_reducible exact hG0 | with_reducible exact hG.b | with_reducible refine G.alloc ?_ _ | with_reducible refine Below.setCell ?_ (by first | (simp; done) | (simp; omega)) _ | with_reducible refine G.trans ?_ hb9 | with_reducible refine G.trans ?_ hb8))
                  exact tree_stop
                exact tree_stop
              exact tree_stop
            exact tree_stop
          exact tree_stop
        (with_reducible refine tree_run hG ?_ ?_)
        · intro K hK
          go_simp
          replace hG := Grew.alloc hG (.cells #[.int .i64 0, .slice none 0 0] 24)
          (with_reducible refine hK _ _ hG ?_)
          clear hK K
          (with_reducible refine tree_run hG ?_ ?_)
          · intro K hK
            go_simp
            go_at_call 20; (with_reducible refine (J1.out _ (hz1.grow hG.b) (hy1.grow hG.b)).mono ?_); rintro e' w8 ⟨A7, c7, rfl, hs7, hl7, hm7, ha7, hb8⟩; have szb8 := hb8.size; (try simp at szb8); obtain ⟨hcx8, hfx8⟩ := G.old hb8; (try ((with_reducible refine have_intro (p := w4.heap.size < w8.heap.size) ?_ ?_); (focus (omega; done)); intro l81)); (try ((with_reducible refine have_intro (p := w0.heap.size < w8.heap.size) ?_ ?_); (focus (omega; done)); intro l82)); (try ((with_reducible refine have_intro (p := w0.heap.size + 1 < w8.heap.size) ?_ ?_); (focus (omega; done)); intro l83)); (try ((with_reducible refine have_intro (p := w8.cell? ⟨w0.heap.size, 0, none⟩ = some (.int .i64 0)) ?_ ?_); (focus (refine G.cell ?_ hb8; go_simp; done)); intro qa0)); (try ((with_reducible refine have_intro (p := w8.cell? ⟨w0.heap.size, 1, none⟩ = some (.slice none 0 0)) ?_ ?_); (focus (refine G.cell ?_ hb8; go_simp; done)); intro qa1)); (try ((with_reducible refine have_intro (p := w8.cell? ⟨w0.heap.size + 1, 0, none⟩ = some (.int .i64 0)) ?_ ?_); (focus (refine G.cell ?_ hb8; go_simp; done)); intro qa2)); (try ((with_reducible refine have_intro (p := w8.cell? ⟨w0.heap.size + 1, 1, none⟩ = some (.slice none 0 0)) ?_ ?_); (focus (refine G.cell ?_ hb8; go_simp; done)); intro qa3))
            replace hG := Grew.trans hG hb8
            (try dsimp only)
            (with_reducible refine hK _ _ hG ?_)
            clear hK K
            (with_reducible refine tree_run hG ?_ ?_)
            · intro K hK
              go_simp
              go_at_call 20; (with_reducible refine (J2.out _ (hz2.grow hG.b) (hy2.grow hG.b)).mono ?_); rintro e' w9 ⟨A8, c8, rfl, hs8, hl8, hm8, ha8, hb9⟩; have szb9 := hb9.size; (try simp at szb9); obtain ⟨hcx9, hfx9⟩ := G.old hb9; (try ((with_reducible refine have_intro (p := w4.heap.size < w9.heap.size) ?_ ?_); (focus (omega; done)); intro l91)); (try ((with_reducible refine have_intro (p := w4.heap.size + 1 < w9.heap.size) ?_ ?_); (focus (omega; done)); intro l92)); (try ((with_reducible refine have_intro (p := w8.heap.size < w9.heap.size) ?_ ?_); (focus (omega; done)); intro l93)); (try ((with_reducible refine have_intro (p := w8.heap.size + 1 < w9.heap.size) ?_ ?_); (focus (omega; done)); intro l94)); (try ((with_reducible refine have_intro (p := w0.heap.size < w9.heap.size) ?_ ?_); (focus (omega; done)); intro l95)); (try ((with_reducible refine have_intro (p := w0.heap.size + 1 < w9.heap.size) ?_ ?_); (focus (omega; done)); intro l96)); (try ((with_reducible refine have_intro (p := w9.cell? ⟨w0.heap.size, 0, none⟩ = some (.int .i64 0)) ?_ ?_); (focus (refine G.cell ?_ hb9; go_simp; done)); intro qb0)); (try ((with_reducible refine have_intro (p := w9.cell? ⟨w0.heap.size, 1, none⟩ = some (.slice none 0 0)) ?_ ?_); (focus (refine G.cell ?_ hb9; go_simp; done)); intro qb1)); (try ((with_reducible refine have_intro (p := w9.cell? ⟨w0.heap.size + 1, 0, none⟩ = some (.int .i64 0)) ?_ ?_); (focus (refine G.cell ?_ hb9; go_simp; done)); intro qb2)); (try ((with_reducible refine have_intro (p := w9.cell? ⟨w0.heap.size + 1, 1, none⟩ = some (.slice none 0 0)) ?_ ?_); (focus (refine G.cell ?_ hb9; go_simp; done)); intro qb3)); (try ((with_reducible refine have_intro (p := w9.cell? ⟨w8.heap.size, 0, none⟩ = some (.int .i64 0)) ?_ ?_); (focus (refine G.cell ?_ hb9; go_simp; done)); intro qb4)); (try ((with_reducible refine have_intro (p := w9.cell? ⟨w8.heap.size, 1, none⟩ = some (.slice none 0 0)) ?_ ?_); (focus (refine G.cell ?_ hb9; go_simp; done)); intro qb5)); (try ((with_reducible refine have_intro (p := w9.cell? ⟨w8.heap.size + 1, 0, none⟩ = some (.int .i64 0)) ?_ ?_); (focus (refine G.cell ?_ hb9; go_simp; done)); intro qb6)); (try ((with_reducible refine have_intro (p := w9.cell? ⟨w8.heap.size + 1, 1, none⟩ = some (.slice none 0 0)) ?_ ?_); (focus (refine G.cell ?_ hb9; go_simp; done)); intro qb7))
              replace hG := Grew.trans hG hb9
              (try dsimp only)
              (with_reducible refine hK _ _ hG ?_)
              clear hK K
              (with_reducible refine tree_run hG ?_ ?_)
              · intro K hK
                go_simp
                replace hG := Grew.alloc hG (.cells #[.int .i64 0, .slice none 0 0] 24)
                (with_reducible refine hK _ _ hG ?_)
                clear hK K
                (with_reducible refine tree_tail ?_ ?_)
                · intro K hK
                  go_simp
                  (with_reducible refine hK _ _ ?_)
                  clear hK K
                  (with_reducible refine tree_tail ?_ ?_)
                  · intro K hK
                    go_simp
                    (with_reducible refine hK _ _ ?_)
                    clear hK K
                    (with_reducible refine tree_nil ?_)
                    go_wp2_with fail
                    go_meet
                    refine ⟨_, _, A7, c7, A8, c8, rfl, rfl, by go_simp, by go_simp, by go_simp, by go_simp, ?_, ?_, ?_⟩
                    · repeat (first | with_reducible assumption | with_reducible refine Sl.alloc ?_ _ | with_reducible refine Sl.setCellNew ?_ hs7 (by first | (simp; done) | (simp; omega)) _ | with_reducible refine Sl.setCell ?_ ha7 (by first | (simp; done) | (simp; omega)) _ | with_reducible refine Sl.grow ?_ hb9 | with_reducible refine Sl.grow ?_ hb8 | assumption)
                    · repeat (first | with_reducible assumption | with_reducible refine Sl.alloc ?_ _ | with_reducible refine Sl.setCellNew ?_ hs8 (by first | (simp; done) | (simp; omega)) _ | with_reducible refine Sl.setCell ?_ ha8 (by first | (simp; done) | (simp; omega)) _ | with_reducible refine Sl.grow ?_ hb9 | with_reducible refine Sl.grow ?_ hb8 | assumption)
                    · (repeat (first | with_reducible exact hG0 | with_reducible exact hG.b | with_reducible refine G.alloc ?_ _ | with_reducible refine Below.setCell ?_ (by first | (simp; done) | (simp; omega)) _ | with_reducible refine G.trans ?_ hb9 | with_reducible refine G.trans ?_ hb8))
                  exact tree_stop
                exact tree_stop
              exact tree_stop
            (with_reducible refine tree_run hG ?_ ?_)
            · intro K hK
              go_simp
              replace hG := Grew.alloc hG (.cells #[.int .i64 0, .slice none 0 0] 24)
              (with_reducible refine hK _ _ hG ?_)
              clear hK K
              (with_reducible refine tree_run hG ?_ ?_)
              · intro K hK
                go_simp
                go_at_call 20; (with_reducible refine (J2.out _ (hz2.grow hG.b) (hy2.grow hG.b)).mono ?_); rintro e' w9 ⟨A8, c8, rfl, hs8, hl8, hm8, ha8, hb9⟩; have szb9 := hb9.size; (try simp at szb9); obtain ⟨hcx9, hfx9⟩ := G.old hb9; (try ((with_reducible refine have_intro (p := w4.heap.size < w9.heap.size) ?_ ?_); (focus (omega; done)); intro l91)); (try ((with_reducible refine have_intro (p := w4.heap.size + 1 < w9.heap.size) ?_ ?_); (focus (omega; done)); intro l92)); (try ((with_reducible refine have_intro (p := w8.heap.size < w9.heap.size) ?_ ?_); (focus (omega; done)); intro l93)); (try ((with_reducible refine have_intro (p := w8.heap.size + 1 < w9.heap.size) ?_ ?_); (focus (omega; done)); intro l94)); (try ((with_reducible refine have_intro (p := w0.heap.size < w9.heap.size) ?_ ?_); (focus (omega; done)); intro l95)); (try ((with_reducible refine have_intro (p := w0.heap.size + 1 < w9.heap.size) ?_ ?_); (focus (omega; done)); intro l96)); (try ((with_reducible refine have_intro (p := w9.cell? ⟨w0.heap.size, 0, none⟩ = some (.int .i64 0)) ?_ ?_); (focus (refine G.cell ?_ hb9; go_simp; done)); intro qb0)); (try ((with_reducible refine have_intro (p := w9.cell? ⟨w0.heap.size, 1, none⟩ = some (.slice none 0 0)) ?_ ?_); (focus (refine G.cell ?_ hb9; go_simp; done)); intro qb1)); (try ((with_reducible refine have_intro (p := w9.cell? ⟨w0.heap.size + 1, 0, none⟩ = some (.int .i64 0)) ?_ ?_); (focus (refine G.cell ?_ hb9; go_simp; done)); intro qb2)); (try ((with_reducible refine have_intro (p := w9.cell? ⟨w0.heap.size + 1, 1, none⟩ = some (.slice none 0 0)) ?_ ?_); (focus (refine G.cell ?_ hb9; go_simp; done)); intro qb3)); (try ((with_reducible refine have_intro (p := w9.cell? ⟨w8.heap.size, 0, none⟩ = some (.int .i64 0)) ?_ ?_); (focus (refine G.cell ?_ hb9; go_simp; done)); intro qb4)); (try ((with_reducible refine have_intro (p := w9.cell? ⟨w8.heap.size, 1, none⟩ = some (.slice none 0 0)) ?_ ?_); (focus (refine G.cell ?_ hb9; go_simp; done)); intro qb5)); (try ((with_reducible refine have_intro (p := w9.cell? ⟨w8.heap.size + 1, 0, none⟩ = some (.int .i64 0)) ?_ ?_); (focus (refine G.cell ?_ hb9; go_simp; done)); intro qb6)); (try ((with_reducible refine have_intro (p := w9.cell? ⟨w8.heap.size + 1, 1, none⟩ = some (.slice none 0 0)) ?_ ?_); (focus (refine G.cell ?_ hb9; go_simp; done)); intro qb7))
                replace hG := Grew.trans hG hb9
                (try dsimp only)
                (with_reducible refine hK _ _ hG ?_)
                clear hK K
                (with_reducible refine tree_tail ?_ ?_)
                · intro K hK
                  go_simp
                  (with_reducible refine hK _ _ ?_)
                  clear hK K
                  (with_reducible refine tree_tail ?_ ?_)
                  · intro K hK
                    go_simp
                    (with_reducible refine hK _ _ ?_)
                    clear hK K
                    (with_reducible refine tree_nil ?_)
                    go_wp2_with fail
                    go_meet
                    refine ⟨_, _, A7, c7, A8, c8, rfl, rfl, by go_simp, by go_simp, by go_simp, by go_simp, ?_, ?_, ?_⟩
                    · repeat (first | with_reducible assumption | with_reducible refine Sl.alloc ?_ _ | with_reducible refine Sl.setCellNew ?_ hs7 (by first | (simp; done) | (simp; omega)) _ | with_reducible refine Sl.setCell ?_ ha7 (by first | (simp; done) | (simp; omega)) _ | with_reducible refine Sl.grow ?_ hb9 | with_reducible refine Sl.grow ?_ hb8 | assumption)
                    · repeat (first | with_reducible assumption | with_reducible refine Sl.alloc ?_ _ | with_reducible refine Sl.setCellNew ?_ hs8 (by first | (simp; done) | (simp; omega)) _ | with_reducible refine Sl.setCell ?_ ha8 (by first | (simp; done) | (simp; omega)) _ | with_reducible refine Sl.grow ?_ hb9 | with_reducible refine Sl.grow ?_ hb8 | assumption)
                    · (repeat (first | with_reducible exact hG0 | with_reducible exact hG.b | with_reducible refine G.alloc ?_ _ | with_reducible refine Below.setCell ?_ (by first | (simp; done) | (simp; omega)) _ | with_reducible refine G.trans ?_ hb9 | with_reducible refine G.trans ?_ hb8))
                  exact tree_stop
                exact tree_stop
              exact tree_stop
            exact tree_stop
          (with_reducible refine tree_run hG ?_ ?_)
          · intro K hK
            go_simp
            replace hG := Grew.alloc hG (.cells #[.int .i64 0, .slice none 0 0] 24)
            (with_reducible refine hK _ _ hG ?_)
            clear hK K
            (with_reducible refine tree_run hG ?_ ?_)
            · intro K hK
              go_simp
              go_at_call 20; (with_reducible refine (J1.out _ (hz1.grow hG.b) (hy1.grow hG.b)).mono ?_); rintro e' w8 ⟨A7, c7, rfl, hs7, hl7, hm7, ha7, hb8⟩; have szb8 := hb8.size; (try simp at szb8); obtain ⟨hcx8, hfx8⟩ := G.old hb8; (try ((with_reducible refine have_intro (p := w4.heap.size < w8.heap.size) ?_ ?_); (focus (omega; done)); intro l81)); (try ((with_reducible refine have_intro (p := w0.heap.size < w8.heap.size) ?_ ?_); (focus (omega; done)); intro l82)); (try ((with_reducible refine have_intro (p := w0.heap.size + 1 < w8.heap.size) ?_ ?_); (focus (omega; done)); intro l83)); (try ((with_reducible refine have_intro (p := w8.cell? ⟨w0.heap.size, 0, none⟩ = some (.int .i64 0)) ?_ ?_); (focus (refine G.cell ?_ hb8; go_simp; done)); intro qa0)); (try ((with_reducible refine have_intro (p := w8.cell? ⟨w0.heap.size, 1, none⟩ = some (.slice none 0 0)) ?_ ?_); (focus (refine G.cell ?_ hb8; go_simp; done)); intro qa1)); (try ((with_reducible refine have_intro (p := w8.cell? ⟨w0.heap.size + 1, 0, none⟩ = some (.int .i64 0)) ?_ ?_); (focus (refine G.cell ?_ hb8; go_simp; done)); intro qa2)); (try ((with_reducible refine have_intro (p := w8.cell? ⟨w0.heap.size + 1, 1, none⟩ = some (.slice none 0 0)) ?_ ?_); (focus (refine G.cell ?_ hb8; go_simp; done)); intro qa3))
              replace hG := Grew.trans hG hb8
              (try dsimp only)
              (with_reducible refine hK _ _ hG ?_)
              clear hK K
              (with_reducible refine tree_run hG ?_ ?_)
              · intro K hK
                go_simp
                go_at_call 20; (with_reducible refine (J2.out _ (hz2.grow hG.b) (hy2.grow hG.b)).mono ?_); rintro e' w9 ⟨A8, c8, rfl, hs8, hl8, hm8, ha8, hb9⟩; have szb9 := hb9.size; (try simp at szb9); obtain ⟨hcx9, hfx9⟩ := G.old hb9; (try ((with_reducible refine have_intro (p := w4.heap.size < w9.heap.size) ?_ ?_); (focus (omega; done)); intro l91)); (try ((with_reducible refine have_intro (p := w4.heap.size + 1 < w9.heap.size) ?_ ?_); (focus (omega; done)); intro l92)); (try ((with_reducible refine have_intro (p := w8.heap.size < w9.heap.size) ?_ ?_); (focus (omega; done)); intro l93)); (try ((with_reducible refine have_intro (p := w8.heap.size + 1 < w9.heap.size) ?_ ?_); (focus (omega; done)); intro l94)); (try ((with_reducible refine have_intro (p := w0.heap.size < w9.heap.size) ?_ ?_); (focus (omega; done)); intro l95)); (try ((with_reducible refine have_intro (p := w0.heap.size + 1 < w9.heap.size) ?_ ?_); (focus (omega; done)); intro l96)); (try ((with_reducible refine have_intro (p := w9.cell? ⟨w0.heap.size, 0, none⟩ = some (.int .i64 0)) ?_ ?_); (focus (refine G.cell ?_ hb9; go_simp; done)); intro qb0)); (try ((with_reducible refine have_intro (p := w9.cell? ⟨w0.heap.size, 1, none⟩ = some (.slice none 0 0)) ?_ ?_); (focus (refine G.cell ?_ hb9; go_simp; done)); intro qb1)); (try ((with_reducible refine have_intro (p := w9.cell? ⟨w0.heap.size + 1, 0, none⟩ = some (.int .i64 0)) ?_ ?_); (focus (refine G.cell ?_ hb9; go_simp; done)); intro qb2)); (try ((with_reducible refine have_intro (p := w9.cell? ⟨w0.heap.size + 1, 1, none⟩ = some (.slice none 0 0)) ?_ ?_); (focus (refine G.cell ?_ hb9; go_simp; done)); intro qb3)); (try ((with_reducible refine have_intro (p := w9.cell? ⟨w8.heap.size, 0, none⟩ = some (.int .i64 0)) ?_ ?_); (focus (refine G.cell ?_ hb9; go_simp; done)); intro qb4)); (try ((with_reducible refine have_intro (p := w9.cell? ⟨w8.heap.size, 1, none⟩ = some (.slice none 0 0)) ?_ ?_); (focus (refine G.cell ?_ hb9; go_simp; done)); intro qb5)); (try ((with_reducible refine have_intro (p := w9.cell? ⟨w8.heap.size + 1, 0, none⟩ = some (.int .i64 0)) ?_ ?_); (focus (refine G.cell ?_ hb9; go_simp; done)); intro qb6)); (try ((with_reducible refine have_intro (p := w9.cell? ⟨w8.heap.size + 1, 1, none⟩ = some (.slice none 0 0)) ?_ ?_); (focus (refine G.cell ?_ hb9; go_simp; done)); intro qb7))
                replace hG := Grew.trans hG hb9
                (try dsimp only)
                (with_reducible refine hK _ _ hG ?_)
                clear hK K
                (with_reducible refine tree_tail ?_ ?_)
                · intro K hK
                  go_simp
                  (with_reducible refine hK _ _ ?_)
                  clear hK K
                  (with_reducible refine tree_tail ?_ ?_)
                  · intro K hK
                    go_simp
                    (with_reducible refine hK _ _ ?_)
                    clear hK K
                    (with_reducible refine tree_nil ?_)
                    go_wp2_with fail
                    go_meet
                    refine ⟨_, _, A7, c7, A8, c8, rfl, rfl, by go_simp, by go_simp, by go_simp, by go_simp, ?_, ?_, ?_⟩
                    · repeat (first | with_reducible assumption | with_reducible refine Sl.alloc ?_ _ | with_reducible refine Sl.setCellNew ?_ hs7 (by first | (simp; done) | (simp; omega)) _ | with_reducible refine Sl.setCell ?_ ha7 (by first | (simp; done) | (simp; omega)) _ | with_reducible refine Sl.grow ?_ hb9 | with_reducible refine Sl.grow ?_ hb8 | assumption)
                    · repeat (first | with_reducible assumption | with_reducible refine Sl.alloc ?_ _ | with_reducible refine Sl.setCellNew ?_ hs8 (by first | (simp; done) | (simp; omega)) _ | with_reducible refine Sl.setCell ?_ ha8 (by first | (simp; done) | (simp; omega)) _ | with_reducible refine Sl.grow ?_ hb9 | with_reducible refine Sl.grow ?_ hb8 | assumption)
                    · (repeat (first | with_reducible exact hG0 | with_reducible exact hG.b | with_reducible refine G.alloc ?_ _ | with_reducible refine Below.setCell ?_ (by first | (simp; done) | (simp; omega)) _ | with_reducible refine G.trans ?_ hb9 | with_reducible refine G.trans ?_ hb8))
                  exact tree_stop
                exact tree_stop
              exact tree_stop
            exact tree_stop
          exact tree_stop
        (with_reducible refine tree_run hG ?_ ?_)
        · intro K hK
          go_simp
          replace hG := Grew.alloc hG (.cells #[.int .i64 0, .slice none 0 0] 24)
          (with_reducible refine hK _ _ hG ?_)
          clear hK K
          (with_reducible refine tree_run hG ?_ ?_)
          · intro K hK
            go_simp
            go_at_call 20; (with_reducible refine (J1.out _ (hz1.grow hG.b) (hy1.grow hG.b)).mono ?_); rintro e' w8 ⟨A7, c7, rfl, hs7, hl7, hm7, ha7, hb8⟩; have szb8 := hb8.size; (try simp at szb8); obtain ⟨hcx8, hfx8⟩ := G.old hb8; (try ((with_reducible refine have_intro (p := w4.heap.size < w8.heap.size) ?_ ?_); (focus (omega; done)); intro l81)); (try ((with_reducible refine have_intro (p := w0.heap.size < w8.heap.size) ?_ ?_); (focus (omega; done)); intro l82)); (try ((with_reducible refine have_intro (p := w0.heap.size + 1 < w8.heap.size) ?_ ?_); (focus (omega; done)); intro l83)); (try ((with_reducible refine have_intro (p := w8.cell? ⟨w0.heap.size, 0, none⟩ = some (.int .i64 0)) ?_ ?_); (focus (refine G.cell ?_ hb8; go_simp; done)); intro qa0)); (try ((with_reducible refine have_intro (p := w8.cell? ⟨w0.heap.size, 1, none⟩ = some (.slice none 0 0)) ?_ ?_); (focus (refine G.cell ?_ hb8; go_simp; done)); intro qa1)); (try ((with_reducible refine have_intro (p := w8.cell? ⟨w0.heap.size + 1, 0, none⟩ = some (.int .i64 0)) ?_ ?_); (focus (refine G.cell ?_ hb8; go_simp; done)); intro qa2)); (try ((with_reducible refine have_intro (p := w8.cell? ⟨w0.heap.size + 1, 1, none⟩ = some (.slice none 0 0)) ?_ ?_); (focus (refine G.cell ?_ hb8; go_simp; done)); intro qa3))
            replace hG := Grew.trans hG hb8
            (try dsimp only)
            (with_reducible refine hK _ _ hG ?_)
            clear hK K
            (with_reducible refine tree_run hG ?_ ?_)
            · intro K hK
              go_simp
              go_at_call 20; (with_reducible refine (J2.out _ (hz2.grow hG.b) (hy2.grow hG.b)).mono ?_); rintro e' w9 ⟨A8, c8, rfl, hs8, hl8, hm8, ha8, hb9⟩; have szb9 := hb9.size; (try simp at szb9); obtain ⟨hcx9, hfx9⟩ := G.old hb9; (try ((with_reducible refine have_intro (p := w4.heap.size < w9.heap.size) ?_ ?_); (focus (omega; done)); intro l91)); (try ((with_reducible refine have_intro (p := w4.heap.size + 1 < w9.heap.size) ?_ ?_); (focus (omega; done)); intro l92)); (try ((with_reducible refine have_intro (p := w8.heap.size < w9.heap.size) ?_ ?_); (focus (omega; done)); intro l93)); (try ((with_reducible refine have_intro (p := w8.heap.size + 1 < w9.heap.size) ?_ ?_); (focus (omega; done)); intro l94)); (try ((with_reducible refine have_intro (p := w0.heap.size < w9.heap.size) ?_ ?_); (focus (omega; done)); intro l95)); (try ((with_reducible refine have_intro (p := w0.heap.size + 1 < w9.heap.size) ?_ ?_); (focus (omega; done)); intro l96)); (try ((with_reducible refine have_intro (p := w9.cell? ⟨w0.heap.size, 0, none⟩ = some (.int .i64 0)) ?_ ?_); (focus (refine G.cell ?_ hb9; go_simp; done)); intro qb0)); (try ((with_reducible refine have_intro (p := w9.cell? ⟨w0.heap.size, 1, none⟩ = some (.slice none 0 0)) ?_ ?_); (focus (refine G.cell ?_ hb9; go_simp; done)); intro qb1)); (try ((with_reducible refine have_intro (p := w9.cell? ⟨w0.heap.size + 1, 0, none⟩ = some (.int .i64 0)) ?_ ?_); (focus (refine G.cell ?_ hb9; go_simp; done)); intro qb2)); (try ((with_reducible refine have_intro (p := w9.cell? ⟨w0.heap.size + 1, 1, none⟩ = some (.slice none 0 0)) ?_ ?_); (focus (refine G.cell ?_ hb9; go_simp; done)); intro qb3)); (try ((with_reducible refine have_intro (p := w9.cell? ⟨w8.heap.size, 0, none⟩ = some (.int .i64 0)) ?_ ?_); (focus (refine G.cell ?_ hb9; go_simp; done)); intro qb4)); (try ((with_reducible refine have_intro (p := w9.cell? ⟨w8.heap.size, 1, none⟩ = some (.slice none 0 0)) ?_ ?_); (focus (refine G.cell ?_ hb9; go_simp; done)); intro qb5)); (try ((with_reducible refine have_intro (p := w9.cell? ⟨w8.heap.size + 1, 0, none⟩ = some (.int .i64 0)) ?_ ?_); (focus (refine G.cell ?_ hb9; go_simp; done)); intro qb6)); (try ((with_reducible refine have_intro (p := w9.cell? ⟨w8.heap.size + 1, 1, none⟩ = some (.slice none 0 0)) ?_ ?_); (focus (refine G.cell ?_ hb9; go_simp; done)); intro qb7))
              replace hG := Grew.trans hG hb9
              (try dsimp only)
              (with_reducible refine hK _ _ hG ?_)
              clear hK K
              (with_reducible refine tree_run hG ?_ ?_)
              · intro K hK
                go_simp
                replace hG := Grew.alloc hG (.cells #[.int .i64 0, .slice none 0 0] 24)
                (with_reducible refine hK _ _ hG ?_)
                clear hK K
                (with_reducible refine tree_tail ?_ ?_)
                · intro K hK
                  go_simp
                  (with_reducible refine hK _ _ ?_)
                  clear hK K
                  (with_reducible refine tree_tail ?_ ?_)
                  · intro K hK
                    go_simp
                    (with_reducible refine hK _ _ ?_)
                    clear hK K
                    (with_reducible refine tree_nil ?_)
                    go_wp2_with fail
                    go_meet
                    refine ⟨_, _, A7, c7, A8, c8, rfl, rfl, by go_simp, by go_simp, by go_simp, by go_simp, ?_, ?_, ?_⟩
                    · repeat (first | with_reducible assumption | with_reducible refine Sl.alloc ?_ _ | with_reducible refine Sl.setCellNew ?_ hs7 (by first | (simp; done) | (simp; omega)) _ | with_reducible refine Sl.setCell ?_ ha7 (by first | (simp; done) | (simp; omega)) _ | with_reducible refine Sl.grow ?_ hb9 | with_reducible refine Sl.grow ?_ hb8 | assumption)
                    · repeat (first | with_reducible assumption | with_reducible refine Sl.alloc ?_ _ | with_reducible refine Sl.setCellNew ?_ hs8 (by first | (simp; done) | (simp; omega)) _ | with_reducible refine Sl.setCell ?_ ha8 (by first | (simp; done) | (simp; omega)) _ | with_reducible refine Sl.grow ?_ hb9 | with_reducible refine Sl.grow ?_ hb8 | assumption)
                    · (repeat (first | with_reducible exact hG0 | with_reducible exact hG.b | with_reducible refine G.alloc ?_ _ | with_reducible refine Below.setCell ?_ (by first | (simp; done) | (simp; omega)) _ | with_reducible refine G.trans ?_ hb9 | with_reducible refine G.trans ?_ hb8))
                  exact tree_stop
                exact tree_stop
              exact tree_stop
            (with_reducible refine tree_run hG ?_ ?_)
            · intro K hK
              go_simp
              replace hG := Grew.alloc hG (.cells #[.int .i64 0, .slice none 0 0] 24)
              (with_reducible refine hK _ _ hG ?_)
              clear hK K
              (with_reducible refine tree_run hG ?_ ?_)
              · intro K hK
                go_simp
                go_at_call 20; (with_reducible refine (J2.out _ (hz2.grow hG.b) (hy2.grow hG.b)).mono ?_); rintro e' w9 ⟨A8, c8, rfl, hs8, hl8, hm8, ha8, hb9⟩; have szb9 := hb9.size; (try simp at szb9); obtain ⟨hcx9, hfx9⟩ := G.old hb9; (try ((with_reducible refine have_intro (p := w4.heap.size < w9.heap.size) ?_ ?_); (focus (omega; done)); intro l91)); (try ((with_reducible refine have_intro (p := w4.heap.size + 1 < w9.heap.size) ?_ ?_); (focus (omega; done)); intro l92)); (try ((with_reducible refine have_intro (p := w8.heap.size < w9.heap.size) ?_ ?_); (focus (omega; done)); intro l93)); (try ((with_reducible refine have_intro (p := w8.heap.size + 1 < w9.heap.size) ?_ ?_); (focus (omega; done)); intro l94)); (try ((with_reducible refine have_intro (p := w0.heap.size < w9.heap.size) ?_ ?_); (focus (omega; done)); intro l95)); (try ((with_reducible refine have_intro (p := w0.heap.size + 1 < w9.heap.size) ?_ ?_); (focus (omega; done)); intro l96)); (try ((with_reducible refine have_intro (p := w9.cell? ⟨w0.heap.size, 0, none⟩ = some (.int .i64 0)) ?_ ?_); (focus (refine G.cell ?_ hb9; go_simp; done)); intro qb0)); (try ((with_reducible refine have_intro (p := w9.cell? ⟨w0.heap.size, 1, none⟩ = some (.slice none 0 0)) ?_ ?_); (focus (refine G.cell ?_ hb9; go_simp; done)); intro qb1)); (try ((with_reducible refine have_intro (p := w9.cell? ⟨w0.heap.size + 1, 0, none⟩ = some (.int .i64 0)) ?_ ?_); (focus (refine G.cell ?_ hb9; go_simp; done)); intro qb2)); (try ((with_reducible refine have_intro (p := w9.cell? ⟨w0.heap.size + 1, 1, none⟩ = some (.slice none 0 0)) ?_ ?_); (focus (refine G.cell ?_ hb9; go_simp; done)); intro qb3)); (try ((with_reducible refine have_intro (p := w9.cell? ⟨w8.heap.size, 0, none⟩ = some (.int .i64 0)) ?_ ?_); (focus (refine G.cell ?_ hb9; go_simp; done)); intro qb4)); (try ((with_reducible refine have_intro (p := w9.cell? ⟨w8.heap.size, 1, none⟩ = some (.slice none 0 0)) ?_ ?_); (focus (refine G.cell ?_ hb9; go_simp; done)); intro qb5)); (try ((with_reducible refine have_intro (p := w9.cell? ⟨w8.heap.size + 1, 0, none⟩ = some (.int .i64 0)) ?_ ?_); (focus (refine G.cell ?_ hb9; go_simp; done)); intro qb6)); (try ((with_reducible refine have_intro (p := w9.cell? ⟨w8.heap.size + 1, 1, none⟩ = some (.slice none 0 0)) ?_ ?_); (focus (refine G.cell ?_ hb9; go_simp; done)); intro qb7))
                replace hG := Grew.trans hG hb9
                (try dsimp only)
                (with_reducible refine hK _ _ hG ?_)
                clear hK K
                (with_reducible refine tree_tail ?_ ?_)
                · intro K hK
                  go_simp
                  (with_reducible refine hK _ _ ?_)
                  clear hK K
                  (with_reducible refine tree_tail ?_ ?_)
                  · intro K hK
                    go_simp
                    (with_reducible refine hK _ _ ?_)
                    clear hK K
                    (with_reducible refine tree_nil ?_)
                    go_wp2_with fail
                    go_meet
                    refine ⟨_, _, A7, c7, A8, c8, rfl, rfl, by go_simp, by go_simp, by go_simp, by go_simp, ?_, ?_, ?_⟩
                    · repeat (first | with_reducible assumption | with_reducible refine Sl.alloc ?_ _ | with_reducible refine Sl.setCellNew ?_ hs7 (by first | (simp; done) | (simp; omega)) _ | with_reducible refine Sl.setCell ?_ ha7 (by first | (simp; done) | (simp; omega)) _ | with_reducible refine Sl.grow ?_ hb9 | with_reducible refine Sl.grow ?_ hb8 | assumption)
                    · repeat (first | with_reducible assumption | with_reducible refine Sl.alloc ?_ _ | with_reducible refine Sl.setCellNew ?_ hs8 (by first | (simp; done) | (simp; omega)) _ | with_reducible refine Sl.setCell ?_ ha8 (by first | (simp; done) | (simp; omega)) _ | with_reducible refine Sl.grow ?_ hb9 | with_reducible refine Sl.grow ?_ hb8 | assumption)
                    · (repeat (first | with_reducible exact hG0 | with_reducible exact hG.b | with_reducible refine G.alloc ?_ _ | with_reducible refine Below.setCell ?_ (by first | (simp; done) | (simp; omega)) _ | with_reducible refine G.trans ?_ hb9 | with_reducible refine G.trans ?_ hb8))
                  exact tree_stop
                exact tree_stop
              exact tree_stop
            exact tree_stop
          (with_reducible refine tree_run hG ?_ ?_)
          · intro K hK
            go_simp
            replace hG := Grew.alloc hG (.cells #[.int .i64 0, .slice none 0 0] 24)
            (with_reducible refine hK _ _ hG ?_)
            clear hK K
            (with_reducible refine tree_run hG ?_ ?_)
            · intro K hK
              go_simp
              go_at_call 20; (with_reducible refine (J1.out _ (hz1.grow hG.b) (hy1.grow hG.b)).mono ?_); rintro e' w8 ⟨A7, c7, rfl, hs7, hl7, hm7, ha7, hb8⟩; have szb8 := hb8.size; (try simp at szb8); obtain ⟨hcx8, hfx8⟩ := G.old hb8; (try ((with_reducible refine have_intro (p := w4.heap.size < w8.heap.size) ?_ ?_); (focus (omega; done)); intro l81)); (try ((with_reducible refine have_intro (p := w0.heap.size < w8.heap.size) ?_ ?_); (focus (omega; done)); intro l82)); (try ((with_reducible refine have_intro (p := w0.heap.size + 1 < w8.heap.size) ?_ ?_); (focus (omega; done)); intro l83)); (try ((with_reducible refine have_intro (p := w8.cell? ⟨w0.heap.size, 0, none⟩ = some (.int .i64 0)) ?_ ?_); (focus (refine G.cell ?_ hb8; go_simp; done)); intro qa0)); (try ((with_reducible refine have_intro (p := w8.cell? ⟨w0.heap.size, 1, none⟩ = some (.slice none 0 0)) ?_ ?_); (focus (refine G.cell ?_ hb8; go_simp; done)); intro qa1)); (try ((with_reducible refine have_intro (p := w8.cell? ⟨w0.heap.size + 1, 0, none⟩ = some (.int .i64 0)) ?_ ?_); (focus (refine G.cell ?_ hb8; go_simp; done)); intro qa2)); (try ((with_reducible refine have_intro (p := w8.cell? ⟨w0.heap.size + 1, 1, none⟩ = some (.slice none 0 0)) ?_ ?_); (focus (refine G.cell ?_ hb8; go_simp; done)); intro qa3))
              replace hG := Grew.trans hG hb8
              (try dsimp only)
              (with_reducible refine hK _ _ hG ?_)
              clear hK K
              (with_reducible refine tree_run hG ?_ ?_)
              · intro K hK
                go_simp
                go_at_call 20; (with_reducible refine (J2.out _ (hz2.grow hG.b) (hy2.grow hG.b)).mono ?_); rintro e' w9 ⟨A8, c8, rfl, hs8, hl8, hm8, ha8, hb9⟩; have szb9 := hb9.size; (try simp at szb9); obtain ⟨hcx9, hfx9⟩ := G.old hb9; (try ((with_reducible refine have_intro (p := w4.heap.size < w9.heap.size) ?_ ?_); (focus (omega; done)); intro l91)); (try ((with_reducible refine have_intro (p := w4.heap.size + 1 < w9.heap.size) ?_ ?_); (focus (omega; done)); intro l92)); (try ((with_reducible refine have_intro (p := w8.heap.size < w9.heap.size) ?_ ?_); (focus (omega; done)); intro l93)); (try ((with_reducible refine have_intro (p := w8.heap.size + 1 < w9.heap.size) ?_ ?_); (focus (omega; done)); intro l94)); (try ((with_reducible refine have_intro (p := w0.heap.size < w9.heap.size) ?_ ?_); (focus (omega; done)); intro l95)); (try ((with_reducible refine have_intro (p := w0.heap.size + 1 < w9.heap.size) ?_ ?_); (focus (omega; done)); intro l96)); (try ((with_reducible refine have_intro (p := w9.cell? ⟨w0.heap.size, 0, none⟩ = some (.int .i64 0)) ?_ ?_); (focus (refine G.cell ?_ hb9; go_simp; done)); intro qb0)); (try ((with_reducible refine have_intro (p := w9.cell? ⟨w0.heap.size, 1, none⟩ = some (.slice none 0 0)) ?_ ?_); (focus (refine G.cell ?_ hb9; go_simp; done)); intro qb1)); (try ((with_reducible refine have_intro (p := w9.cell? ⟨w0.heap.size + 1, 0, none⟩ = some (.int .i64 0)) ?_ ?_); (focus (refine G.cell ?_ hb9; go_simp; done)); intro qb2)); (try ((with_reducible refine have_intro (p := w9.cell? ⟨w0.heap.size + 1, 1, none⟩ = some (.slice none 0 0)) ?_ ?_); (focus (refine G.cell ?_ hb9; go_simp; done)); intro qb3)); (try ((with_reducible refine have_intro (p := w9.cell? ⟨w8.heap.size, 0, none⟩ = some (.int .i64 0)) ?_ ?_); (focus (refine G.cell ?_ hb9; go_simp; done)); intro qb4)); (try ((with_reducible refine have_intro (p := w9.cell? ⟨w8.heap.size, 1, none⟩ = some (.slice none 0 0)) ?_ ?_); (focus (refine G.cell ?_ hb9; go_simp; done)); intro qb5)); (try ((with_reducible refine have_intro (p := w9.cell? ⟨w8.heap.size + 1, 0, none⟩ = some (.int .i64 0)) ?_ ?_); (focus (refine G.cell ?_ hb9; go_simp; done)); intro qb6)); (try ((with_reducible refine have_intro (p := w9.cell? ⟨w8.heap.size + 1, 1, none⟩ = some (.slice none 0 0)) ?_ ?_); (focus (refine G.cell ?_ hb9; go_simp; done)); intro qb7))
                replace hG := Grew.trans hG hb9
                (try dsimp only)
                (with_reducible refine hK _ _ hG ?_)
                clear hK K
                (with_reducible refine tree_tail ?_ ?_)
                · intro K hK
                  go_simp
                  (with_reducible refine hK _ _ ?_)
                  clear hK K
                  (with_reducible refine tree_tail ?_ ?_)
                  · intro K hK
                    go_simp
                    (with_reducible refine hK _ _ ?_)
                    clear hK K
                    (with_reducible refine tree_nil ?_)
                    go_wp2_with fail
                    go_meet
                    refine ⟨_, _, A7, c7, A8, c8, rfl, rfl, by go_simp, by go_simp, by go_simp, by go_simp, ?_, ?_, ?_⟩
                    · repeat (first | with_reducible assumption | with_reducible refine Sl.alloc ?_ _ | with_reducible refine Sl.setCellNew ?_ hs7 (by first | (simp; done) | (simp; omega)) _ | with_reducible refine Sl.setCell ?_ ha7 (by first | (simp; done) | (simp; omega)) _ | with_reducible refine Sl.grow ?_ hb9 | with_reducible refine Sl.grow ?_ hb8 | assumption)
                    · repeat (first | with_reducible assumption | with_reducible refine Sl.alloc ?_ _ | with_reducible refine Sl.setCellNew ?_ hs8 (by first | (simp; done) | (simp; omega)) _ | with_reducible refine Sl.setCell ?_ ha8 (by first | (simp; done) | (simp; omega)) _ | with_reducible refine Sl.grow ?_ hb9 | with_reducible refine Sl.grow ?_ hb8 | assumption)
                    · (repeat (first | with_reducible exact hG0 | with_reducible exact hG.b | with_reducible refine G.alloc ?_ _ | with_reducible refine Below.setCell ?_ (by first | (simp; done) | (simp; omega)) _ | with_reducible refine G.trans ?_ hb9 | with_reducible refine G.trans ?_ hb8))
                  exact tree_stop
                exact tree_stop
              exact tree_stop
            exact tree_stop
          exact tree_stop
        exact tree_stop
      case rest =>
        obtain ⟨b7, b8, A7, c7, A8, c8, rfl, rfl, d0, d1, d2, d3, hs7, hs8, hbr⟩ := hcut
        replace k0 := G.cell k0 hbr
        replace k1 := G.cell k1 hbr
        replace k2 := G.cell k2 hbr
        replace k3 := G.cell k3 hbr
        replace lt0 := cell_lt k0
        replace lt2 := cell_lt k2
        have lt7 := cell_lt d0
        have lt8 := cell_lt d2
        have hz1 : Sl _ A1 N1 (i64s ys1) := hz1.grow hbr
        have hz2 : Sl _ A2 N2 (i64s ys2) := hz2.grow hbr
        have hS1 : Hid (cmpS e1 (ys1 ++ us1) e2 (ys2 ++ us2) = -1) := hS.out _ _
        have hS2 : Hid (cmpS e1 (ys1 ++ us1) e2 ys2 = -1) := by have := hS.out us1 []; unfold Hid; rwa [List.append_nil] at this
        have hS3 : Hid (cmpS e1 ys1 e2 (ys2 ++ us2) = -1) := by have := hS.out [] us2; unfold Hid; rwa [List.append_nil] at this
        have hbwc : Below w.heap.size w _ := G.trans hbw4 hbr
        clear k4 k5 lt4 hbw4 hbr hS
        go_wp2_with fail
        refine (compare_any e1 e2 A7 A8 (N1 + M1) (N2 + M2) c7 c8 (ys1 ++ us1) (ys2 ++ us2) _ hs7 hs8 hzm1).mono ?_
        rintro e' v1 ⟨rfl, hb1⟩
        rw [hS1.out]
        
        replace k0 := G.cell (a := ⟨w.heap.size, 0, none⟩) (v := .int .i64 e1) (by go_simp) hb1
        replace k1 := G.cell (a := ⟨w.heap.size, 1, none⟩) (v := .slice A1 N1 c1) (by go_simp) hb1
        replace k2 := G.cell (a := ⟨w.heap.size + 1, 0, none⟩) (v := .int .i64 e2) (by go_simp) hb1
        replace k3 := G.cell (a := ⟨w.heap.size + 1, 1, none⟩) (v := .slice A2 N2 c2) (by go_simp) hb1
        replace k4 := G.cell (a := ⟨b7, 0, none⟩) (v := .int .i64 e1) (by go_simp) hb1
        replace k5 := G.cell (a := ⟨b7, 1, none⟩) (v := .slice A7 (N1 + M1) c7) (by go_simp) hb1
        replace k6 := G.cell (a := ⟨b8, 0, none⟩) (v := .int .i64 e2) (by go_simp) hb1
        replace k7 := G.cell (a := ⟨b8, 1, none⟩) (v := .slice A8 (N2 + M2) c8) (by go_simp) hb1
        replace lt0 := cell_lt k0
        replace lt1 := cell_lt k1
        replace lt2 := cell_lt k2
        replace lt3 := cell_lt k3
        replace lt4 := cell_lt k4
        replace lt5 := cell_lt k5
        replace lt6 := cell_lt k6
        replace lt7 := cell_lt k7
        go_wp2_with fail
        refine (compare_any e1 e2 A7 A2 (N1 + M1) N2 c7 c2 (ys1 ++ us1) ys2 _ (hs7.grow hb1) (hz2.grow hb1) hzm1).mono ?_
        rintro e' v2 ⟨rfl, hb2⟩
        rw [hS2.out]
        replace k0 := G.cell (a := ⟨w.heap.size, 0, none⟩) (v := .int .i64 e1) (by go_simp) hb2
        replace k1 := G.cell (a := ⟨w.heap.size, 1, none⟩) (v := .slice A1 N1 c1) (by go_simp) hb2
        replace k2 := G.cell (a := ⟨w.heap.size + 1, 0, none⟩) (v := .int .i64 e2) (by go_simp) hb2
        replace k3 := G.cell (a := ⟨w.heap.size + 1, 1, none⟩) (v := .slice A2 N2 c2) (by go_simp) hb2
        replace k4 := G.cell (a := ⟨b7, 0, none⟩) (v := .int .i64 e1) (by go_simp) hb2
        replace k5 := G.cell (a := ⟨b7, 1, none⟩) (v := .slice A7 (N1 + M1) c7) (by go_simp) hb2
        replace k6 := G.cell (a := ⟨b8, 0, none⟩) (v := .int .i64 e2) (by go_simp) hb2
        replace k7 := G.cell (a := ⟨b8, 1, none⟩) (v := .slice A8 (N2 + M2) c8) (by go_simp) hb2
        replace lt0 := cell_lt k0
        replace lt1 := cell_lt k1
        replace lt2 := cell_lt k2
        replace lt3 := cell_lt k3
        replace lt4 := cell_lt k4
        replace lt5 := cell_lt k5
        replace lt6 := cell_lt k6
        replace lt7 := cell_lt k7
        go_wp2_with fail
        refine (compare_any e1 e2 A1 A8 N1 (N2 + M2) c1 c8 ys1 (ys2 ++ us2) _ ((hz1.grow hb1).grow hb2) ((hs8.grow hb1).grow hb2) hn1).mono ?_
        rintro e' v3 ⟨rfl, hb3⟩
        rw [hS3.out]
        replace k0 := G.cell (a := ⟨w.heap.size, 0, none⟩) (v := .int .i64 e1) (by go_simp) hb3
        replace k1 := G.cell (a := ⟨w.heap.size, 1, none⟩) (v := .slice A1 N1 c1) (by go_simp) hb3
        replace k2 := G.cell (a := ⟨w.heap.size + 1, 0, none⟩) (v := .int .i64 e2) (by go_simp) hb3
        replace k3 := G.cell (a := ⟨w.heap.size + 1, 1, none⟩) (v := .slice A2 N2 c2) (by go_simp) hb3
        replace k4 := G.cell (a := ⟨b7, 0, none⟩) (v := .int .i64 e1) (by go_simp) hb3
        replace k5 := G.cell (a := ⟨b7, 1, none⟩) (v := .slice A7 (N1 + M1) c7) (by go_simp) hb3
        replace k6 := G.cell (a := ⟨b8, 0, none⟩) (v := .int .i64 e2) (by go_simp) hb3
        replace k7 := G.cell (a := ⟨b8, 1, none⟩) (v := .slice A8 (N2 + M2) c8) (by go_simp) hb3
        replace lt0 := cell_lt k0
        replace lt1 := cell_lt k1
        replace lt2 := cell_lt k2
        replace lt3 := cell_lt k3
        replace lt4 := cell_lt k4
        replace lt5 := cell_lt k5
        replace lt6 := cell_lt k6
        replace lt7 := cell_lt k7
        go_wp2_with fail
        refine (equal_any e1 e2 A7 A8 (N1 + M1) (N2 + M2) c7 c8 (ys1 ++ us1) (ys2 ++ us2) _ (((hs7.grow hb1).grow hb2).grow hb3) (((hs8.grow hb1).grow hb2).grow hb3) hzm1).mono ?_
        rintro e' v4 ⟨rfl, hb4⟩
        rw [hS1.out]
        go_wp2
        go_ret
        exact ⟨rfl, by repeat (first | with_reducible assumption | with_reducible exact G.refl _ | with_reducible refine G.drew ?_ | with_reducible refine G.drewN ?_ _ | with_reducible refine G.alloc ?_ _ | with_reducible refine Below.setCell ?_ (by first | (simp; done) | (simp; omega)) _ | with_reducible refine G.trans ?_ hb12 | with_reducible refine G.trans ?_ hb11 | with_reducible refine G.trans ?_ hb10 | with_reducible refine G.trans ?_ hb9 | with_reducible refine G.trans ?_ hb8 | with_reducible refine G.trans ?_ hb7 | with_reducible refine G.trans ?_ hb6 | with_reducible refine G.trans ?_ hb5 | with_reducible refine G.trans ?_ hb4 | with_reducible refine G.trans ?_ hb3 | with_reducible refine G.trans ?_ hb2 | with_reducible refine G.trans ?_ hb1 | with_reducible refine G.trans ?_ hb | assumption)⟩
    · go_wp2_with fail
      refine (known_any _ (ht1.out.grow (by repeat (first | with_reducible assumption | with_reducible exact G.refl _ | with_reducible refine G.drew ?_ | with_reducible refine G.drewN ?_ _ | with_reducible refine G.alloc ?_ _ | with_reducible refine Below.setCell ?_ (by first | (simp; done) | (simp; omega)) _ | with_reducible refine G.trans ?_ hb12 | with_reducible refine G.trans ?_ hb11 | with_reducible refine G.trans ?_ hb10 | with_reducible refine G.trans ?_ hb9 | with_reducible refine G.trans ?_ hb8 | with_reducible refine G.trans ?_ hb7 | with_reducible refine G.trans ?_ hb6 | with_reducible refine G.trans ?_ hb5 | with_reducible refine G.trans ?_ hb4 | with_reducible refine G.trans ?_ hb3 | with_reducible refine G.trans ?_ hb2 | with_reducible refine G.trans ?_ hb1 | with_reducible refine G.trans ?_ hb | assumption)))).mono ?_
      rintro e' w5 ⟨rfl, hb5⟩
      go_wp2
      go_ret
      exact ⟨rfl, by repeat (first | with_reducible assumption | with_reducible exact G.refl _ | with_reducible refine G.drew ?_ | with_reducible refine G.drewN ?_ _ | with_reducible refine G.alloc ?_ _ | with_reducible refine Below.setCell ?_ (by first | (simp; done) | (simp; omega)) _ | with_reducible refine G.trans ?_ hb12 | with_reducible refine G.trans ?_ hb11 | with_reducible refine G.trans ?_ hb10 | with_reducible refine G.trans ?_ hb9 | with_reducible refine G.trans ?_ hb8 | with_reducible refine G.trans ?_ hb7 | with_reducible refine G.trans ?_ hb6 | with_reducible refine G.trans ?_ hb5 | with_reducible refine G.trans ?_ hb4 | with_reducible refine G.trans ?_ hb3 | with_reducible refine G.trans ?_ hb2 | with_reducible refine G.trans ?_ hb1 | with_reducible refine G.trans ?_ hb | assumption)⟩
end Go.Proofs.YtjldpodehffbnaaDoor
