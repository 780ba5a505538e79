/- The law DecimalNearest returns true: the walk. -/
import Derived.Test.YtoipapcbngknfaaDoorNearM
import Derived.Test.YtoipapcbngknfaaDoorRef11
import Derived.Test.YtoipapcbngknfaaDoorDKnown
namespace Go.Proofs.YtoipapcbngknfaaDoor
set_option linter.unusedVariables false
set_option linter.unnecessarySimpa false
set_option linter.unusedSimpArgs false
open Go.RowKit

theorem z_bd {n : Int} {q : Nat} (h0 : -999999999999999 ≤ n) (h1 : n ≤ 999999999999999) (hq : q ≤ 12) : -999999999999999000000000000 ≤ n * p10 q ∧ n * p10 q ≤ 999999999999999000000000000 := by
  have h2 : p10 q ≤ 1000000000000 := by have := p10_mono hq; rwa [show p10 12 = 1000000000000 by decide] at this
  have h3 := p10_pos q
  generalize p10 q = P at *
  have h6 : n * P ≤ 999999999999999 * P := Int.mul_le_mul_of_nonneg_right (by omega) (by omega)
  have h7 : -n * P ≤ 999999999999999 * P := Int.mul_le_mul_of_nonneg_right (by omega) (by omega)
  rw [Int.neg_mul] at h7
  constructor <;> omega
theorem z_len {z : Int} (h0 : -10000000000000000000000000000 < z) (h1 : z < 10000000000000000000000000000) : (digs z.natAbs).length ≤ 1000 := Nat.le_trans (len_digs_le (k := 28) (by omega)) (by omega)

set_option maxRecDepth 20000 in set_option maxHeartbeats 1000000 in
theorem lawnear_bad (n s sc : Int) (w : World) (h1 : (Lit.int .i64 n).wf = true) (ht : Pow10 w) (hbad : (divN n s 1 0 sc).2.2 ≠ 0) :
    Calls Tryd.prog 4 #[.agg #[.int .i64 n, .int .i64 s], .int .i64 sc] w fun e' w' => e' = .returned (.bool true) ∧ Below w.heap.size w w' := by
  have htt := Lib.hid ht
  have M1 := fun w => round_any n s sc w h1
  unfold RetF RetN at M1
  generalize divN n s 1 0 sc = p at *
  obtain ⟨p1, p2, p3⟩ := p
  simp only at M1 hbad
  have hpb : (p3 != 0) = true := by simp [hbad]
  have hpc : (p3 == 0) = false := by simp [hbad]
  replace M1 := Lib.hid M1
  clear h1 ht
  go_enter Tryd.func4, Tryd.ntmps4
  go_wp2_with fail
  refine (M1.out _).mono ?_
  rintro e' w1 ⟨rfl, hb1⟩
  go_wp2_with fail
  refine (known_any _ (htt.out.grow (by repeat (first | with_reducible assumption | with_reducible exact G.refl _ | with_reducible refine G.drew ?_ | with_reducible refine G.drewN ?_ _ | with_reducible refine G.alloc ?_ _ | with_reducible refine Below.setCell ?_ (by first | (simp; done) | (simp; omega)) _ | with_reducible refine G.trans ?_ hb12 | with_reducible refine G.trans ?_ hb11 | with_reducible refine G.trans ?_ hb10 | with_reducible refine G.trans ?_ hb9 | with_reducible refine G.trans ?_ hb8 | with_reducible refine G.trans ?_ hb7 | with_reducible refine G.trans ?_ hb6 | with_reducible refine G.trans ?_ hb5 | with_reducible refine G.trans ?_ hb4 | with_reducible refine G.trans ?_ hb3 | with_reducible refine G.trans ?_ hb2 | with_reducible refine G.trans ?_ hb1 | with_reducible refine G.trans ?_ hb | assumption)))).mono ?_
  rintro e' w2 ⟨rfl, hb2⟩
  go_wp2_with fail
  refine (known_any _ (htt.out.grow (by repeat (first | with_reducible assumption | with_reducible exact G.refl _ | with_reducible refine G.drew ?_ | with_reducible refine G.drewN ?_ _ | with_reducible refine G.alloc ?_ _ | with_reducible refine Below.setCell ?_ (by first | (simp; done) | (simp; omega)) _ | with_reducible refine G.trans ?_ hb12 | with_reducible refine G.trans ?_ hb11 | with_reducible refine G.trans ?_ hb10 | with_reducible refine G.trans ?_ hb9 | with_reducible refine G.trans ?_ hb8 | with_reducible refine G.trans ?_ hb7 | with_reducible refine G.trans ?_ hb6 | with_reducible refine G.trans ?_ hb5 | with_reducible refine G.trans ?_ hb4 | with_reducible refine G.trans ?_ hb3 | with_reducible refine G.trans ?_ hb2 | with_reducible refine G.trans ?_ hb1 | with_reducible refine G.trans ?_ hb | assumption)))).mono ?_
  rintro e' w3 ⟨rfl, hb3⟩
  go_wp2_with fail
  go_ret
  exact ⟨rfl, by repeat (first | with_reducible assumption | with_reducible exact G.refl _ | with_reducible refine G.drew ?_ | with_reducible refine G.drewN ?_ _ | with_reducible refine G.alloc ?_ _ | with_reducible refine Below.setCell ?_ (by first | (simp; done) | (simp; omega)) _ | with_reducible refine G.trans ?_ hb12 | with_reducible refine G.trans ?_ hb11 | with_reducible refine G.trans ?_ hb10 | with_reducible refine G.trans ?_ hb9 | with_reducible refine G.trans ?_ hb8 | with_reducible refine G.trans ?_ hb7 | with_reducible refine G.trans ?_ hb6 | with_reducible refine G.trans ?_ hb5 | with_reducible refine G.trans ?_ hb4 | with_reducible refine G.trans ?_ hb3 | with_reducible refine G.trans ?_ hb2 | with_reducible refine G.trans ?_ hb1 | with_reducible refine G.trans ?_ hb | assumption)⟩

set_option maxRecDepth 20000 in set_option maxHeartbeats 2000000 in
theorem lawnear_ok (n V : Int) (j q S : Nat) (w : World) (ht : Pow10 w) (hoj : okN n j = true) (hoV : okN V q = true) (hd1 : divN n j 1 0 q = (V, (q : Int), 0)) (hd2 : divN V q 1 0 q = (V, (q : Int), 0))
    (hS : (j < q ∧ S = q) ∨ (q ≤ j ∧ S = j)) (hS12 : S ≤ 12)
    (hlaw : ∀ D E : Int, D = n * p10 (S - j) + -(V * p10 (S - q)) → ((D + D < 0 → E = -(D + D)) ∧ (¬ D + D < 0 → E = D + D)) → cmpI E (1 * p10 (S - q)) < 0 ∨ (cmpI E (1 * p10 (S - q)) = 0 ∧ V.tmod 2 = 0)) :
    Calls Tryd.prog 4 #[.agg #[.int .i64 n, .int .i64 j], .int .i64 q] w fun e' w' => e' = .returned (.bool true) ∧ Below w.heap.size w w' := by
  have htt := Lib.hid ht
  have M1 := fun w => round_any n j q w (wf_ok hoj)
  have M2 := fun w => round_any V q q w (wf_ok hoV)
  rw [hd1] at M1
  rw [hd2] at M2
  unfold RetF RetN at M1 M2
  simp only at M1 M2
  replace M1 := Lib.hid M1
  replace M2 := Lib.hid M2
  have I1 := Lib.hid (fun w => is_any n j w)
  have I2 := Lib.hid (fun w => is_any V q w)
  rw [hoj] at I1
  rw [hoV] at I2
  have o1 := okN_iff.1 hoj
  have o2 := okN_iff.1 hoV
  have hjS : j ≤ S := by omega
  have hqS : q ≤ S := by omega
  have P1 := Lib.hid (fun w => at_any n j S w o1.1 o1.2.1 hjS hS12)
  have P2 := Lib.hid (fun w => at_any V q S w o2.1 o2.2.1 hqS hS12)
  have PO := Lib.hid (fun w => of_any 1 (S - q) w (by omega) (by omega) (by omega))
  have b1 := z_bd (n := n) (q := S - j) o1.1 o1.2.1 (by omega)
  have b2 := z_bd (n := V) (q := S - q) o2.1 o2.2.1 (by omega)
  have b3 := z_bd (n := 1) (q := S - q) (by omega) (by omega) (by omega)
  have hsub : IntKind.i64.wrap ((S : Int) - (q : Int)) = ((S - q : Nat) : Int) := by rw [IntWalk.i64_in _ (by omega)]; omega
  have hsub2 : (S : Int) - (q : Int) = ((S - q : Nat) : Int) := by omega
  obtain ⟨T, hT⟩ : ∃ T, S - q = T := ⟨_, rfl⟩
  rw [hT] at hsub hsub2 PO hlaw b2 b3
  have hTw : IntKind.i64.wrap (T : Int) = (T : Int) := IntWalk.i64_in _ (by omega)
  simp only [hT] at P2
  generalize n * p10 (S - j) = Z1 at *
  generalize V * p10 T = Z2 at *
  generalize (1 : Int) * p10 T = U at *
  have q1 : (V != V) = false := by simp
  have q2 : ((q : Int) != (q : Int)) = false := by simp
  have l1 := Lib.hid (z_len (z := Z1) (by omega) (by omega))
  have l2 := Lib.hid (z_len (z := Z2) (by omega) (by omega))
  have l3 := Lib.hid (z_len (z := U) (by omega) (by omega))
  obtain ⟨D, hD⟩ : ∃ D, Z1 + -Z2 = D := ⟨_, rfl⟩
  have l4 := Lib.hid (z_len (z := D) (by omega) (by omega))
  have l5 := Lib.hid (z_len (z := D + D) (by omega) (by omega))
  have l6 := Lib.hid (z_len (z := -(D + D)) (by omega) (by omega))
  replace hlaw := Lib.hid (fun E h => hlaw D E hD.symm h)
  replace hD := Lib.hid hD
  clear hd1 hd2 hoj hoV o1 o2 b1 b2 b3 hT ht hS12
  go_enter Tryd.func4, Tryd.ntmps4
  go_wp2_with fail
  refine (M1.out _).mono ?_
  rintro e' w1 ⟨rfl, hb1⟩
  
  replace k0 := G.cell (a := ⟨w.heap.size, 0, none⟩) (v := .int .i64 n) (by go_simp) hb1
  replace k1 := G.cell (a := ⟨w.heap.size, 1, none⟩) (v := .int .i64 j) (by go_simp) hb1
  replace lt0 := cell_lt k0
  replace lt1 := cell_lt k1
  go_wp2_with fail
  refine (known_any _ (htt.out.grow (by repeat (first | with_reducible assumption | with_reducible exact G.refl _ | with_reducible refine G.drew ?_ | with_reducible refine G.drewN ?_ _ | with_reducible refine G.alloc ?_ _ | with_reducible refine Below.setCell ?_ (by first | (simp; done) | (simp; omega)) _ | with_reducible refine G.trans ?_ hb12 | with_reducible refine G.trans ?_ hb11 | with_reducible refine G.trans ?_ hb10 | with_reducible refine G.trans ?_ hb9 | with_reducible refine G.trans ?_ hb8 | with_reducible refine G.trans ?_ hb7 | with_reducible refine G.trans ?_ hb6 | with_reducible refine G.trans ?_ hb5 | with_reducible refine G.trans ?_ hb4 | with_reducible refine G.trans ?_ hb3 | with_reducible refine G.trans ?_ hb2 | with_reducible refine G.trans ?_ hb1 | with_reducible refine G.trans ?_ hb | assumption)))).mono ?_
  rintro e' w2 ⟨rfl, hb2⟩
  
  replace k0 := G.cell (a := ⟨w.heap.size, 0, none⟩) (v := .int .i64 n) (by go_simp) hb2
  replace k1 := G.cell (a := ⟨w.heap.size, 1, none⟩) (v := .int .i64 j) (by go_simp) hb2
  replace k2 := G.cell (a := ⟨w1.heap.size, 0, none⟩) (v := .int .i64 V) (by go_simp) hb2
  replace k3 := G.cell (a := ⟨w1.heap.size, 1, none⟩) (v := .int .i64 q) (by go_simp) hb2
  replace lt0 := cell_lt k0
  replace lt1 := cell_lt k1
  replace lt2 := cell_lt k2
  replace lt3 := cell_lt k3
  go_wp2_with fail
  refine (M2.out _).mono ?_
  rintro e' w3 ⟨rfl, hb3⟩
  replace k0 := G.cell (a := ⟨w.heap.size, 0, none⟩) (v := .int .i64 n) (by go_simp) hb3
  replace k1 := G.cell (a := ⟨w.heap.size, 1, none⟩) (v := .int .i64 j) (by go_simp) hb3
  replace k2 := G.cell (a := ⟨w1.heap.size, 0, none⟩) (v := .int .i64 V) (by go_simp) hb3
  replace k3 := G.cell (a := ⟨w1.heap.size, 1, none⟩) (v := .int .i64 q) (by go_simp) hb3
  replace lt0 := cell_lt k0
  replace lt1 := cell_lt k1
  replace lt2 := cell_lt k2
  replace lt3 := cell_lt k3
  go_wp2_with fail
  refine (I1.out _).mono ?_
  rintro e' w4 ⟨rfl, hb4⟩
  replace k0 := G.cell (a := ⟨w.heap.size, 0, none⟩) (v := .int .i64 n) (by go_simp) hb4
  replace k1 := G.cell (a := ⟨w.heap.size, 1, none⟩) (v := .int .i64 j) (by go_simp) hb4
  replace k2 := G.cell (a := ⟨w1.heap.size, 0, none⟩) (v := .int .i64 V) (by go_simp) hb4
  replace k3 := G.cell (a := ⟨w1.heap.size, 1, none⟩) (v := .int .i64 q) (by go_simp) hb4
  replace lt0 := cell_lt k0
  replace lt1 := cell_lt k1
  replace lt2 := cell_lt k2
  replace lt3 := cell_lt k3
  go_wp2_with fail
  refine (I2.out _).mono ?_
  rintro e' w5 ⟨rfl, hb5⟩
  replace k0 := G.cell (a := ⟨w.heap.size, 0, none⟩) (v := .int .i64 n) (by go_simp) hb5
  replace k1 := G.cell (a := ⟨w.heap.size, 1, none⟩) (v := .int .i64 j) (by go_simp) hb5
  replace k2 := G.cell (a := ⟨w1.heap.size, 0, none⟩) (v := .int .i64 V) (by go_simp) hb5
  replace k3 := G.cell (a := ⟨w1.heap.size, 1, none⟩) (v := .int .i64 q) (by go_simp) hb5
  replace lt0 := cell_lt k0
  replace lt1 := cell_lt k1
  replace lt2 := cell_lt k2
  replace lt3 := cell_lt k3
  have hbw : Below w.heap.size w w5 := by repeat (first | with_reducible assumption | with_reducible exact G.refl _ | with_reducible refine G.drew ?_ | with_reducible refine G.drewN ?_ _ | with_reducible refine G.alloc ?_ _ | with_reducible refine Below.setCell ?_ (by first | (simp; done) | (simp; omega)) _ | with_reducible refine G.trans ?_ hb12 | with_reducible refine G.trans ?_ hb11 | with_reducible refine G.trans ?_ hb10 | with_reducible refine G.trans ?_ hb9 | with_reducible refine G.trans ?_ hb8 | with_reducible refine G.trans ?_ hb7 | with_reducible refine G.trans ?_ hb6 | with_reducible refine G.trans ?_ hb5 | with_reducible refine G.trans ?_ hb4 | with_reducible refine G.trans ?_ hb3 | with_reducible refine G.trans ?_ hb2 | with_reducible refine G.trans ?_ hb1 | with_reducible refine G.trans ?_ hb | assumption)
  have hz1 := hb1.size
  have hz2 := hb2.size
  have hz3 := hb3.size
  have hz4 := hb4.size
  have hz5 := hb5.size
  simp at hz1 hz2 hz3 hz4 hz5
  have hltx : w.heap.size < w1.heap.size := by omega
  clear hb1 hb2 hb3 hb4 hb5
  · have hmaxe : max (j : Int) (q : Int) = (S : Int) := by omega
    clear hS
    go_upto_region 10 with (fail)
    go_cut [10] (fun px wx => ∃ X A9 n9 c9, px = .pointer (some ⟨X, 0, none⟩) ∧ w5.heap.size ≤ X ∧ Box2 wx X (.int .i64 (sgn D)) (.slice A9 n9 c9) ∧ Hid (Wd wx A9 n9 c9 D ∧ Off A9 n9 X) ∧ Hid (Below w5.heap.size w5 wx))
    case first =>
      refine wp_region_tree (.quiet 0 1 (.quiet 1 1 (.quiet 3 1 (.quiet 4 1 (.run 2 2 (.run 5 2 (.run 6 2 (.run 7 2 (.run 8 2 (.run 9 3 .nil .stop) .stop) (.run 8 2 (.run 7 2 (.run 9 3 .nil .stop) .stop) .stop)) (.run 8 2 (.run 6 2 (.run 7 2 (.run 9 3 .nil .stop) .stop) .stop) .stop)) (.run 8 2 (.run 5 2 (.run 6 2 (.run 7 2 (.run 9 3 .nil .stop) .stop) .stop) .stop) .stop)) (.run 8 2 (.run 2 2 (.run 5 2 (.run 6 2 (.run 7 2 (.run 9 3 .nil .stop) .stop) .stop) .stop) .stop) .stop)))))) [9] 5 (by kernel_rfl) (by decide +kernel) ?_
      simp only [pickT, List.getElem?_cons_succ, List.getElem?_cons_zero]
      intro w0 hG
      have hG0 := hG.b
      have szG := hG0.size
      (try simp at szG)
      (repeat ((first | (with_reducible refine tree_q1 ?_) | (with_reducible refine tree_q0 ?_)); intro K hK; first | (refine Or.inr ⟨?_, ?_⟩; (focus (go_simp; first | done | (simp [undef]; done))); go_simp; (with_reducible refine hK _ ?_); clear hK K) | (refine Or.inl ⟨?_, ?_⟩; (focus (go_simp; done)); apply Exists.intro; refine And.intro ?_ ?_; (focus (first | (intro wq hq; obtain ⟨hcq, hfq⟩ := G.old hq; go_simp; (first | done | exact rfl); done) | (intro wq; go_simp; (first | done | exact rfl); done))); go_simp; (with_reducible refine hK _ ?_); clear hK K) | fail))
      (with_reducible refine tree_run hG ?_ ?_)
      · intro K hK
        go_simp
        go_at_call 20; (with_reducible refine (P1.out _).mono ?_); rintro e x3 ⟨A3, n3, c3, rfl, hw3, ha3, hb3⟩; have hs3 := hb3.size
        replace hG := Grew.trans hG hb3
        (try dsimp only)
        (with_reducible refine hK _ _ hG ?_)
        clear hK K
        (with_reducible refine tree_run hG ?_ ?_)
        · intro K hK
          go_simp
          go_at_call 20; (with_reducible refine (P2.out _).mono ?_); rintro e x4 ⟨A4, n4, c4, rfl, hw4, ha4, hb4⟩; have hs4 := hb4.size
          replace hG := Grew.trans hG hb4
          (try dsimp only)
          (with_reducible refine hK _ _ hG ?_)
          clear hK K
          (with_reducible refine tree_run hG ?_ ?_)
          · intro K hK
            go_simp
            go_at_call 21; (with_reducible refine (minus_any Z2 A4 n4 c4 _).mono ?_); rintro e x5 ⟨rfl, hb5⟩; have hs5 := hb5.size
            replace hG := Grew.trans hG hb5
            (try dsimp only)
            (with_reducible refine hK _ _ hG ?_)
            clear hK K
            (with_reducible refine tree_run hG ?_ ?_)
            · intro K hK
              go_simp
              go_at_call 19; (with_reducible refine (plus_from Z1 (-Z2) A3 A4 n3 n4 c3 c4 _ (by repeat (first | with_reducible assumption | with_reducible refine Wd.grow ?_ hb6 | with_reducible refine Wd.grow ?_ hb5 | with_reducible refine Wd.grow ?_ hb4 | with_reducible refine Wd.grow ?_ hb3 | with_reducible refine Wd.grow ?_ hb7)) (Wd.neg (by repeat (first | with_reducible assumption | with_reducible refine Wd.grow ?_ hb6 | with_reducible refine Wd.grow ?_ hb5 | with_reducible refine Wd.grow ?_ hb4 | with_reducible refine Wd.grow ?_ hb3 | with_reducible refine Wd.grow ?_ hb7))) (by rw [← hw3.len]; exact l1.out) (by rw [← hw4.len]; exact l2.out)).mono ?_); rintro e x6 ⟨A9, n9, c9, rfl, hw9, hfr, hb6⟩; have hs6 := hb6.size; rw [hD.out] at hw9 ⊢
              replace hG := Grew.trans hG hb6
              (try dsimp only)
              (with_reducible refine hK _ _ hG ?_)
              clear hK K
              (with_reducible refine tree_run hG ?_ ?_)
              · intro K hK
                go_simp
                (with_reducible refine name_alloc2 ?_); intro xX hb7 hBX hs7
                replace hG := Grew.trans hG hb7
                (try dsimp only)
                (with_reducible refine hK _ _ hG ?_)
                clear hK K
                (with_reducible refine tree_tail ?_ ?_)
                · intro K hK
                  refine with_box (u := .int .i64 0) (v := .slice none 0 0) 10 rfl (by repeat (first | with_reducible assumption | with_reducible refine Box2.grow ?_ hb6 | with_reducible refine Box2.grow ?_ hb5 | with_reducible refine Box2.grow ?_ hb4 | with_reducible refine Box2.grow ?_ hb3 | with_reducible refine Box2.grow ?_ hb7)) ?_; rintro ⟨y0, y1, y2, y3, y4⟩
                  go_simp
                  (with_reducible refine hK _ _ ?_)
                  clear hK K
                  (with_reducible refine tree_nil ?_)
                  have oX := off_box hBX (A := A9) (n := n9) (by rcases hfr with ⟨rfl, rfl⟩ | ⟨rfl, rfl⟩ | hfr <;> first | exact Off.abv ha3 (by omega) | exact Off.wd hw3 (by omega) | exact Off.abv ha4 (by omega) | exact Off.wd hw4 (by omega) | exact Off.abv hfr (by omega) | exact Off.wd hw9 (by omega))
                  go_wp2_with fail
                  go_meet
                  exact ⟨_, A9, n9, c9, rfl, by omega, Box2.set2 (u := .int .i64 0) (v := .slice none 0 0) (by repeat (first | with_reducible assumption | with_reducible refine Box2.grow ?_ hb6 | with_reducible refine Box2.grow ?_ hb5 | with_reducible refine Box2.grow ?_ hb4 | with_reducible refine Box2.grow ?_ hb3 | with_reducible refine Box2.grow ?_ hb7)), ⟨Wd.off (Wd.off (by repeat (first | with_reducible assumption | with_reducible refine Wd.grow ?_ hb6 | with_reducible refine Wd.grow ?_ hb5 | with_reducible refine Wd.grow ?_ hb4 | with_reducible refine Wd.grow ?_ hb3 | with_reducible refine Wd.grow ?_ hb7)) oX _) oX _, oX⟩, (hG.b.setCell (by first | (simp; done) | (simp; omega) | omega) _).setCell (by first | (simp; done) | (simp; omega) | omega) _⟩
                exact tree_stop
              exact tree_stop
            (with_reducible refine tree_run hG ?_ ?_)
            · intro K hK
              go_simp
              (with_reducible refine name_alloc2 ?_); intro xX hb7 hBX hs7
              replace hG := Grew.trans hG hb7
              (try dsimp only)
              (with_reducible refine hK _ _ hG ?_)
              clear hK K
              (with_reducible refine tree_run hG ?_ ?_)
              · intro K hK
                go_simp
                go_at_call 19; (with_reducible refine (plus_from Z1 (-Z2) A3 A4 n3 n4 c3 c4 _ (by repeat (first | with_reducible assumption | with_reducible refine Wd.grow ?_ hb6 | with_reducible refine Wd.grow ?_ hb5 | with_reducible refine Wd.grow ?_ hb4 | with_reducible refine Wd.grow ?_ hb3 | with_reducible refine Wd.grow ?_ hb7)) (Wd.neg (by repeat (first | with_reducible assumption | with_reducible refine Wd.grow ?_ hb6 | with_reducible refine Wd.grow ?_ hb5 | with_reducible refine Wd.grow ?_ hb4 | with_reducible refine Wd.grow ?_ hb3 | with_reducible refine Wd.grow ?_ hb7))) (by rw [← hw3.len]; exact l1.out) (by rw [← hw4.len]; exact l2.out)).mono ?_); rintro e x6 ⟨A9, n9, c9, rfl, hw9, hfr, hb6⟩; have hs6 := hb6.size; rw [hD.out] at hw9 ⊢
                replace hG := Grew.trans hG hb6
                (try dsimp only)
                (with_reducible refine hK _ _ hG ?_)
                clear hK K
                (with_reducible refine tree_tail ?_ ?_)
                · intro K hK
                  refine with_box (u := .int .i64 0) (v := .slice none 0 0) 10 rfl (by repeat (first | with_reducible assumption | with_reducible refine Box2.grow ?_ hb6 | with_reducible refine Box2.grow ?_ hb5 | with_reducible refine Box2.grow ?_ hb4 | with_reducible refine Box2.grow ?_ hb3 | with_reducible refine Box2.grow ?_ hb7)) ?_; rintro ⟨y0, y1, y2, y3, y4⟩
                  go_simp
                  (with_reducible refine hK _ _ ?_)
                  clear hK K
                  (with_reducible refine tree_nil ?_)
                  have oX := off_box hBX (A := A9) (n := n9) (by rcases hfr with ⟨rfl, rfl⟩ | ⟨rfl, rfl⟩ | hfr <;> first | exact Off.abv ha3 (by omega) | exact Off.wd hw3 (by omega) | exact Off.abv ha4 (by omega) | exact Off.wd hw4 (by omega) | exact Off.abv hfr (by omega) | exact Off.wd hw9 (by omega))
                  go_wp2_with fail
                  go_meet
                  exact ⟨_, A9, n9, c9, rfl, by omega, Box2.set2 (u := .int .i64 0) (v := .slice none 0 0) (by repeat (first | with_reducible assumption | with_reducible refine Box2.grow ?_ hb6 | with_reducible refine Box2.grow ?_ hb5 | with_reducible refine Box2.grow ?_ hb4 | with_reducible refine Box2.grow ?_ hb3 | with_reducible refine Box2.grow ?_ hb7)), ⟨Wd.off (Wd.off (by repeat (first | with_reducible assumption | with_reducible refine Wd.grow ?_ hb6 | with_reducible refine Wd.grow ?_ hb5 | with_reducible refine Wd.grow ?_ hb4 | with_reducible refine Wd.grow ?_ hb3 | with_reducible refine Wd.grow ?_ hb7)) oX _) oX _, oX⟩, (hG.b.setCell (by first | (simp; done) | (simp; omega) | omega) _).setCell (by first | (simp; done) | (simp; omega) | omega) _⟩
                exact tree_stop
              exact tree_stop
            exact tree_stop
          (with_reducible refine tree_run hG ?_ ?_)
          · intro K hK
            go_simp
            (with_reducible refine name_alloc2 ?_); intro xX hb7 hBX hs7
            replace hG := Grew.trans hG hb7
            (try dsimp only)
            (with_reducible refine hK _ _ hG ?_)
            clear hK K
            (with_reducible refine tree_run hG ?_ ?_)
            · intro K hK
              go_simp
              go_at_call 21; (with_reducible refine (minus_any Z2 A4 n4 c4 _).mono ?_); rintro e x5 ⟨rfl, hb5⟩; have hs5 := hb5.size
              replace hG := Grew.trans hG hb5
              (try dsimp only)
              (with_reducible refine hK _ _ hG ?_)
              clear hK K
              (with_reducible refine tree_run hG ?_ ?_)
              · intro K hK
                go_simp
                go_at_call 19; (with_reducible refine (plus_from Z1 (-Z2) A3 A4 n3 n4 c3 c4 _ (by repeat (first | with_reducible assumption | with_reducible refine Wd.grow ?_ hb6 | with_reducible refine Wd.grow ?_ hb5 | with_reducible refine Wd.grow ?_ hb4 | with_reducible refine Wd.grow ?_ hb3 | with_reducible refine Wd.grow ?_ hb7)) (Wd.neg (by repeat (first | with_reducible assumption | with_reducible refine Wd.grow ?_ hb6 | with_reducible refine Wd.grow ?_ hb5 | with_reducible refine Wd.grow ?_ hb4 | with_reducible refine Wd.grow ?_ hb3 | with_reducible refine Wd.grow ?_ hb7))) (by rw [← hw3.len]; exact l1.out) (by rw [← hw4.len]; exact l2.out)).mono ?_); rintro e x6 ⟨A9, n9, c9, rfl, hw9, hfr, hb6⟩; have hs6 := hb6.size; rw [hD.out] at hw9 ⊢
                replace hG := Grew.trans hG hb6
                (try dsimp only)
                (with_reducible refine hK _ _ hG ?_)
                clear hK K
                (with_reducible refine tree_tail ?_ ?_)
                · intro K hK
                  refine with_box (u := .int .i64 0) (v := .slice none 0 0) 10 rfl (by repeat (first | with_reducible assumption | with_reducible refine Box2.grow ?_ hb6 | with_reducible refine Box2.grow ?_ hb5 | with_reducible refine Box2.grow ?_ hb4 | with_reducible refine Box2.grow ?_ hb3 | with_reducible refine Box2.grow ?_ hb7)) ?_; rintro ⟨y0, y1, y2, y3, y4⟩
                  go_simp
                  (with_reducible refine hK _ _ ?_)
                  clear hK K
                  (with_reducible refine tree_nil ?_)
                  have oX := off_box hBX (A := A9) (n := n9) (by rcases hfr with ⟨rfl, rfl⟩ | ⟨rfl, rfl⟩ | hfr <;> first | exact Off.abv ha3 (by omega) | exact Off.wd hw3 (by omega) | exact Off.abv ha4 (by omega) | exact Off.wd hw4 (by omega) | exact Off.abv hfr (by omega) | exact Off.wd hw9 (by omega))
                  go_wp2_with fail
                  go_meet
                  exact ⟨_, A9, n9, c9, rfl, by omega, Box2.set2 (u := .int .i64 0) (v := .slice none 0 0) (by repeat (first | with_reducible assumption | with_reducible refine Box2.grow ?_ hb6 | with_reducible refine Box2.grow ?_ hb5 | with_reducible refine Box2.grow ?_ hb4 | with_reducible refine Box2.grow ?_ hb3 | with_reducible refine Box2.grow ?_ hb7)), ⟨Wd.off (Wd.off (by repeat (first | with_reducible assumption | with_reducible refine Wd.grow ?_ hb6 | with_reducible refine Wd.grow ?_ hb5 | with_reducible refine Wd.grow ?_ hb4 | with_reducible refine Wd.grow ?_ hb3 | with_reducible refine Wd.grow ?_ hb7)) oX _) oX _, oX⟩, (hG.b.setCell (by first | (simp; done) | (simp; omega) | omega) _).setCell (by first | (simp; done) | (simp; omega) | omega) _⟩
                exact tree_stop
              exact tree_stop
            exact tree_stop
          exact tree_stop
        (with_reducible refine tree_run hG ?_ ?_)
        · intro K hK
          go_simp
          (with_reducible refine name_alloc2 ?_); intro xX hb7 hBX hs7
          replace hG := Grew.trans hG hb7
          (try dsimp only)
          (with_reducible refine hK _ _ hG ?_)
          clear hK K
          (with_reducible refine tree_run hG ?_ ?_)
          · intro K hK
            go_simp
            go_at_call 20; (with_reducible refine (P2.out _).mono ?_); rintro e x4 ⟨A4, n4, c4, rfl, hw4, ha4, hb4⟩; have hs4 := hb4.size
            replace hG := Grew.trans hG hb4
            (try dsimp only)
            (with_reducible refine hK _ _ hG ?_)
            clear hK K
            (with_reducible refine tree_run hG ?_ ?_)
            · intro K hK
              go_simp
              go_at_call 21; (with_reducible refine (minus_any Z2 A4 n4 c4 _).mono ?_); rintro e x5 ⟨rfl, hb5⟩; have hs5 := hb5.size
              replace hG := Grew.trans hG hb5
              (try dsimp only)
              (with_reducible refine hK _ _ hG ?_)
              clear hK K
              (with_reducible refine tree_run hG ?_ ?_)
              · intro K hK
                go_simp
                go_at_call 19; (with_reducible refine (plus_from Z1 (-Z2) A3 A4 n3 n4 c3 c4 _ (by repeat (first | with_reducible assumption | with_reducible refine Wd.grow ?_ hb6 | with_reducible refine Wd.grow ?_ hb5 | with_reducible refine Wd.grow ?_ hb4 | with_reducible refine Wd.grow ?_ hb3 | with_reducible refine Wd.grow ?_ hb7)) (Wd.neg (by repeat (first | with_reducible assumption | with_reducible refine Wd.grow ?_ hb6 | with_reducible refine Wd.grow ?_ hb5 | with_reducible refine Wd.grow ?_ hb4 | with_reducible refine Wd.grow ?_ hb3 | with_reducible refine Wd.grow ?_ hb7))) (by rw [← hw3.len]; exact l1.out) (by rw [← hw4.len]; exact l2.out)).mono ?_); rintro e x6 ⟨A9, n9, c9, rfl, hw9, hfr, hb6⟩; have hs6 := hb6.size; rw [hD.out] at hw9 ⊢
                replace hG := Grew.trans hG hb6
                (try dsimp only)
                (with_reducible refine hK _ _ hG ?_)
                clear hK K
                (with_reducible refine tree_tail ?_ ?_)
                · intro K hK
                  refine with_box (u := .int .i64 0) (v := .slice none 0 0) 10 rfl (by repeat (first | with_reducible assumption | with_reducible refine Box2.grow ?_ hb6 | with_reducible refine Box2.grow ?_ hb5 | with_reducible refine Box2.grow ?_ hb4 | with_reducible refine Box2.grow ?_ hb3 | with_reducible refine Box2.grow ?_ hb7)) ?_; rintro ⟨y0, y1, y2, y3, y4⟩
                  go_simp
                  (with_reducible refine hK _ _ ?_)
                  clear hK K
                  (with_reducible refine tree_nil ?_)
                  have oX := off_box hBX (A := A9) (n := n9) (by rcases hfr with ⟨rfl, rfl⟩ | ⟨rfl, rfl⟩ | hfr <;> first | exact Off.abv ha3 (by omega) | exact Off.wd hw3 (by omega) | exact Off.abv ha4 (by omega) | exact Off.wd hw4 (by omega) | exact Off.abv hfr (by omega) | exact Off.wd hw9 (by omega))
                  go_wp2_with fail
                  go_meet
                  exact ⟨_, A9, n9, c9, rfl, by omega, Box2.set2 (u := .int .i64 0) (v := .slice none 0 0) (by repeat (first | with_reducible assumption | with_reducible refine Box2.grow ?_ hb6 | with_reducible refine Box2.grow ?_ hb5 | with_reducible refine Box2.grow ?_ hb4 | with_reducible refine Box2.grow ?_ hb3 | with_reducible refine Box2.grow ?_ hb7)), ⟨Wd.off (Wd.off (by repeat (first | with_reducible assumption | with_reducible refine Wd.grow ?_ hb6 | with_reducible refine Wd.grow ?_ hb5 | with_reducible refine Wd.grow ?_ hb4 | with_reducible refine Wd.grow ?_ hb3 | with_reducible refine Wd.grow ?_ hb7)) oX _) oX _, oX⟩, (hG.b.setCell (by first | (simp; done) | (simp; omega) | omega) _).setCell (by first | (simp; done) | (simp; omega) | omega) _⟩
                exact tree_stop
              exact tree_stop
            exact tree_stop
          exact tree_stop
        exact tree_stop
      (with_reducible refine tree_run hG ?_ ?_)
      · intro K hK
        go_simp
        (with_reducible refine name_alloc2 ?_); intro xX hb7 hBX hs7
        replace hG := Grew.trans hG hb7
        (try dsimp only)
        (with_reducible refine hK _ _ hG ?_)
        clear hK K
        (with_reducible refine tree_run hG ?_ ?_)
        · intro K hK
          go_simp
          go_at_call 20; (with_reducible refine (P1.out _).mono ?_); rintro e x3 ⟨A3, n3, c3, rfl, hw3, ha3, hb3⟩; have hs3 := hb3.size
          replace hG := Grew.trans hG hb3
          (try dsimp only)
          (with_reducible refine hK _ _ hG ?_)
          clear hK K
          (with_reducible refine tree_run hG ?_ ?_)
          · intro K hK
            go_simp
            go_at_call 20; (with_reducible refine (P2.out _).mono ?_); rintro e x4 ⟨A4, n4, c4, rfl, hw4, ha4, hb4⟩; have hs4 := hb4.size
            replace hG := Grew.trans hG hb4
            (try dsimp only)
            (with_reducible refine hK _ _ hG ?_)
            clear hK K
            (with_reducible refine tree_run hG ?_ ?_)
            · intro K hK
              go_simp
              go_at_call 21; (with_reducible refine (minus_any Z2 A4 n4 c4 _).mono ?_); rintro e x5 ⟨rfl, hb5⟩; have hs5 := hb5.size
              replace hG := Grew.trans hG hb5
              (try dsimp only)
              (with_reducible refine hK _ _ hG ?_)
              clear hK K
              (with_reducible refine tree_run hG ?_ ?_)
              · intro K hK
                go_simp
                go_at_call 19; (with_reducible refine (plus_from Z1 (-Z2) A3 A4 n3 n4 c3 c4 _ (by repeat (first | with_reducible assumption | with_reducible refine Wd.grow ?_ hb6 | with_reducible refine Wd.grow ?_ hb5 | with_reducible refine Wd.grow ?_ hb4 | with_reducible refine Wd.grow ?_ hb3 | with_reducible refine Wd.grow ?_ hb7)) (Wd.neg (by repeat (first | with_reducible assumption | with_reducible refine Wd.grow ?_ hb6 | with_reducible refine Wd.grow ?_ hb5 | with_reducible refine Wd.grow ?_ hb4 | with_reducible refine Wd.grow ?_ hb3 | with_reducible refine Wd.grow ?_ hb7))) (by rw [← hw3.len]; exact l1.out) (by rw [← hw4.len]; exact l2.out)).mono ?_); rintro e x6 ⟨A9, n9, c9, rfl, hw9, hfr, hb6⟩; have hs6 := hb6.size; rw [hD.out] at hw9 ⊢
                replace hG := Grew.trans hG hb6
                (try dsimp only)
                (with_reducible refine hK _ _ hG ?_)
                clear hK K
                (with_reducible refine tree_tail ?_ ?_)
                · intro K hK
                  refine with_box (u := .int .i64 0) (v := .slice none 0 0) 10 rfl (by repeat (first | with_reducible assumption | with_reducible refine Box2.grow ?_ hb6 | with_reducible refine Box2.grow ?_ hb5 | with_reducible refine Box2.grow ?_ hb4 | with_reducible refine Box2.grow ?_ hb3 | with_reducible refine Box2.grow ?_ hb7)) ?_; rintro ⟨y0, y1, y2, y3, y4⟩
                  go_simp
                  (with_reducible refine hK _ _ ?_)
                  clear hK K
                  (with_reducible refine tree_nil ?_)
                  have oX := off_box hBX (A := A9) (n := n9) (by rcases hfr with ⟨rfl, rfl⟩ | ⟨rfl, rfl⟩ | hfr <;> first | exact Off.abv ha3 (by omega) | exact Off.wd hw3 (by omega) | exact Off.abv ha4 (by omega) | exact Off.wd hw4 (by omega) | exact Off.abv hfr (by omega) | exact Off.wd hw9 (by omega))
                  go_wp2_with fail
                  go_meet
                  exact ⟨_, A9, n9, c9, rfl, by omega, Box2.set2 (u := .int .i64 0) (v := .slice none 0 0) (by repeat (first | with_reducible assumption | with_reducible refine Box2.grow ?_ hb6 | with_reducible refine Box2.grow ?_ hb5 | with_reducible refine Box2.grow ?_ hb4 | with_reducible refine Box2.grow ?_ hb3 | with_reducible refine Box2.grow ?_ hb7)), ⟨Wd.off (Wd.off (by repeat (first | with_reducible assumption | with_reducible refine Wd.grow ?_ hb6 | with_reducible refine Wd.grow ?_ hb5 | with_reducible refine Wd.grow ?_ hb4 | with_reducible refine Wd.grow ?_ hb3 | with_reducible refine Wd.grow ?_ hb7)) oX _) oX _, oX⟩, (hG.b.setCell (by first | (simp; done) | (simp; omega) | omega) _).setCell (by first | (simp; done) | (simp; omega) | omega) _⟩
                exact tree_stop
              exact tree_stop
            exact tree_stop
          exact tree_stop
        exact tree_stop
      exact tree_stop
    case rest =>
      obtain ⟨X, A9, n9, c9, rfl, hX, hBX, hW, hb6⟩ := hcut
      obtain ⟨x0, x1, x2, x3⟩ := id hBX
      have ltx := hBX.lt
      replace k0 := G.cell (a := ⟨w.heap.size, 0, none⟩) (v := .int .i64 n) (by go_simp) hb6.out
      replace k1 := G.cell (a := ⟨w.heap.size, 1, none⟩) (v := .int .i64 j) (by go_simp) hb6.out
      replace k2 := G.cell (a := ⟨w1.heap.size, 0, none⟩) (v := .int .i64 V) (by go_simp) hb6.out
      replace k3 := G.cell (a := ⟨w1.heap.size, 1, none⟩) (v := .int .i64 q) (by go_simp) hb6.out
      replace lt0 := cell_lt k0
      replace lt1 := cell_lt k1
      replace lt2 := cell_lt k2
      replace lt3 := cell_lt k3
      have hbc : Below w.heap.size w wc := hbw.trans (hb6.out.mono (by have := hbw.size; omega))
      clear hb6
      go_wp2_with fail
      refine (plus_from D D A9 A9 n9 n9 c9 c9 _ hW.out.1 hW.out.1 (by rw [← hW.out.1.len]; exact l4.out) (by rw [← hW.out.1.len]; exact l4.out)).mono ?_
      rintro e x7 ⟨A8, n8, c8, rfl, hw8, hfr, hb7⟩
      have hap : Off A8 n8 X := by
        rcases hfr with ⟨rfl, rfl⟩ | ⟨rfl, rfl⟩ | hfr
        · exact hW.out.2
        · exact hW.out.2
        · exact Off.abv hfr ltx
      have hBX7 := hBX.grow hb7
      replace k0 := G.cell (a := ⟨w.heap.size, 0, none⟩) (v := .int .i64 n) (by go_simp) hb7
      replace k1 := G.cell (a := ⟨w.heap.size, 1, none⟩) (v := .int .i64 j) (by go_simp) hb7
      replace k2 := G.cell (a := ⟨w1.heap.size, 0, none⟩) (v := .int .i64 V) (by go_simp) hb7
      replace k3 := G.cell (a := ⟨w1.heap.size, 1, none⟩) (v := .int .i64 q) (by go_simp) hb7
      replace lt0 := cell_lt k0
      replace lt1 := cell_lt k1
      replace lt2 := cell_lt k2
      replace lt3 := cell_lt k3
      have hb7' : Below w.heap.size w x7 := hbc.trans (hb7.mono (by have := hbc.size; omega))
      have hwX : w.heap.size ≤ X := by omega
      clear hb7 hbc x0 x1 x2 x3 ltx hW hBX
      obtain ⟨x0, x1, x2, x3⟩ := id hBX7
      have ltx := hBX7.lt
      by_cases hneg : D + D < 0
      · have hsn : sgn (D + D) < 0 := by unfold sgn; rw [if_pos hneg]; decide
        have hll := hlaw.out (-(D + D)) ⟨fun _ => rfl, fun h => by omega⟩
        obtain ⟨r, hr⟩ : ∃ r, cmpI (-(D + D)) U = r := ⟨_, rfl⟩
        rw [hr] at hll
        replace hr := Lib.hid hr
        go_wp2_with fail
        refine (minus_any (D + D) A8 n8 c8 _).mono ?_
        rintro e x8 ⟨rfl, hb8⟩
        have hB8 := (Box2.set2 (x := .int .i64 (sgn (D + D))) (y := .slice A8 n8 c8) hBX7).grow hb8
        have hW8 := ((hw8.off hap (.int .i64 (sgn (D + D)))).off hap (.slice A8 n8 c8)).grow hb8
        have kV8 : x8.cell? ⟨w1.heap.size, 0, none⟩ = some (.int .i64 V) := G.cell (by go_simp) hb8
        have hb8' : Below w.heap.size w x8 := (((hb7'.setCell (p := ⟨X, 0, none⟩) hwX (.int .i64 (sgn (D + D)))).setCell (p := ⟨X, 1, none⟩) hwX (.slice A8 n8 c8)).trans (hb8.mono (by have := hb7'.size; simp; omega)))
        clear k0 k1 k2 k3 x0 x1 x2 x3 ltx hb8
        obtain ⟨x0, x1, x2, x3⟩ := id hB8
        have ltx := hB8.lt
        go_wp2_with fail
        have hBE := Box2.set2 (x := .int .i64 (sgn (-(D + D)))) (y := .slice A8 n8 c8) hB8
        have hWE := Lib.hid ((hW8.neg.off (i := 0) hap (.int .i64 (sgn (-(D + D))))).off (i := 1) hap (.slice A8 n8 c8))
        have hbE := (hb8'.setCell (p := ⟨X, 0, none⟩) hwX (.int .i64 (sgn (-(D + D))))).setCell (p := ⟨X, 1, none⟩) hwX (.slice A8 n8 c8)
        refine wp_name (fun x9 => Hid (Wd x9 A8 n8 c8 (-(D + D))) ∧ Box2 x9 X (.int .i64 (sgn (-(D + D)))) (.slice A8 n8 c8) ∧ x9.cell? ⟨w1.heap.size, 0, none⟩ = some (.int .i64 V) ∧ Below w.heap.size w x9) ⟨hWE, hBE, by go_simp, hbE⟩ ?_
        clear hWE hBE hbE hBX7 hw8 hap hfr
        rintro x9 ⟨hW9, hB9, kV, hb9⟩
        obtain ⟨z0, z1, _, _⟩ := id hB9
        have ltz := hB9.lt
        have ltv := cell_lt kV
        refine wp_region_ord [(0, 1), (1, 1), (2, 1), (3, 1), (4, 2), (5, 2), (6, 1)] [] 5 (by kernel_rfl) (by decide +kernel) ?_
        simp only [pickO, List.getElem?_cons_succ, List.getElem?_cons_zero]
        intro w0 hG
        (repeat ((first | (with_reducible refine ord_q1 ?_) | (with_reducible refine ord_q0 ?_)); intro K hK; first | (refine Or.inr ⟨?_, ?_⟩; (focus (go_simp; first | done | (simp [undef]; done))); go_simp; (with_reducible refine hK _ ?_); clear hK K) | (refine Or.inl ⟨?_, ?_⟩; (focus (go_simp; done)); apply Exists.intro; refine And.intro ?_ ?_; (focus (first | (intro wq hq; obtain ⟨hcq, hfq⟩ := G.old hq; go_simp; (first | done | exact rfl); done) | (intro wq; go_simp; (first | done | exact rfl); done))); go_simp; (with_reducible refine hK _ ?_); clear hK K) | fail))
        (with_reducible refine ord_run ?_ hG)
        intro K hK
        go_simp
        go_at_call 23; (with_reducible refine (PO.out _).mono ?_); rintro e y3 ⟨A3, n3, c3, rfl, hw3, ha3, hb3⟩
        replace hG := Grew.trans hG hb3
        (try dsimp only)
        (with_reducible refine hK _ _ hG ?_)
        clear hK K
        (repeat ((first | (with_reducible refine ord_q1 ?_) | (with_reducible refine ord_q0 ?_)); intro K hK; first | (refine Or.inr ⟨?_, ?_⟩; (focus (go_simp; first | done | (simp [undef]; done))); go_simp; (with_reducible refine hK _ ?_); clear hK K) | (refine Or.inl ⟨?_, ?_⟩; (focus (go_simp; done)); apply Exists.intro; refine And.intro ?_ ?_; (focus (first | (intro wq hq; obtain ⟨hcq, hfq⟩ := G.old hq; go_simp; (first | done | exact rfl); done) | (intro wq; go_simp; (first | done | exact rfl); done))); go_simp; (with_reducible refine hK _ ?_); clear hK K) | fail))
        (with_reducible refine ord_run ?_ hG)
        intro K hK
        go_simp
        go_at_call 22; (with_reducible refine (order_any ((-(D + D))) U A8 A3 n8 n3 c8 c3 _ (hW9.out.grow hG.b) hw3 (by rw [← hW9.out.len]; exact l6.out) (by rw [← hw3.len]; exact l3.out)).mono ?_); rintro e y4 ⟨rfl, hb4⟩; rw [hr.out]
        replace hG := Grew.trans hG hb4
        (try dsimp only)
        (with_reducible refine hK _ _ hG ?_)
        clear hK K
        (repeat ((first | (with_reducible refine ord_q1 ?_) | (with_reducible refine ord_q0 ?_)); intro K hK; first | (refine Or.inr ⟨?_, ?_⟩; (focus (go_simp; first | done | (simp [undef]; done))); go_simp; (with_reducible refine hK _ ?_); clear hK K) | (refine Or.inl ⟨?_, ?_⟩; (focus (go_simp; done)); apply Exists.intro; refine And.intro ?_ ?_; (focus (first | (intro wq hq; obtain ⟨hcq, hfq⟩ := G.old hq; go_simp; (first | done | exact rfl); done) | (intro wq; go_simp; (first | done | exact rfl); done))); go_simp; (with_reducible refine hK _ ?_); clear hK K) | fail))
        (with_reducible refine ord_nil ?_)
        have hB := hb9.trans (hG.b.mono (by have := hb9.size; omega))
        have kV4 := G.cell kV hG.b
        rcases hll with hlt | ⟨h0, hev⟩
        · go_wp2_with fail
          go_ret
          exact ⟨rfl, hB⟩
        · subst h0
          go_wp2_with fail
          go_ret
          exact ⟨rfl, hB⟩
      · have hsn : ¬ sgn (D + D) < 0 := by unfold sgn; (repeat' split) <;> omega
        have hll := hlaw.out (D + D) ⟨fun h => by omega, fun _ => rfl⟩
        obtain ⟨r, hr⟩ : ∃ r, cmpI (D + D) U = r := ⟨_, rfl⟩
        rw [hr] at hll
        replace hr := Lib.hid hr
        go_wp2_with fail
        have hBE := Box2.set2 (x := .int .i64 (sgn (D + D))) (y := .slice A8 n8 c8) hBX7
        have hWE := Lib.hid ((hw8.off (i := 0) hap (.int .i64 (sgn (D + D)))).off (i := 1) hap (.slice A8 n8 c8))
        have hbE := (hb7'.setCell (p := ⟨X, 0, none⟩) hwX (.int .i64 (sgn (D + D)))).setCell (p := ⟨X, 1, none⟩) hwX (.slice A8 n8 c8)
        refine wp_name (fun x9 => Hid (Wd x9 A8 n8 c8 (D + D)) ∧ Box2 x9 X (.int .i64 (sgn (D + D))) (.slice A8 n8 c8) ∧ x9.cell? ⟨w1.heap.size, 0, none⟩ = some (.int .i64 V) ∧ Below w.heap.size w x9) ⟨hWE, hBE, by go_simp, hbE⟩ ?_
        clear hWE hBE hbE hBX7 hw8 hap hfr k0 k1 k2 k3
        rintro x9 ⟨hW9, hB9, kV, hb9⟩
        obtain ⟨z0, z1, _, _⟩ := id hB9
        have ltz := hB9.lt
        have ltv := cell_lt kV
        refine wp_region_ord [(0, 1), (1, 1), (2, 1), (3, 1), (4, 2), (5, 2), (6, 1)] [] 5 (by kernel_rfl) (by decide +kernel) ?_
        simp only [pickO, List.getElem?_cons_succ, List.getElem?_cons_zero]
        intro w0 hG
        (repeat ((first | (with_reducible refine ord_q1 ?_) | (with_reducible refine ord_q0 ?_)); intro K hK; first | (refine Or.inr ⟨?_, ?_⟩; (focus (go_simp; first | done | (simp [undef]; done))); go_simp; (with_reducible refine hK _ ?_); clear hK K) | (refine Or.inl ⟨?_, ?_⟩; (focus (go_simp; done)); apply Exists.intro; refine And.intro ?_ ?_; (focus (first | (intro wq hq; obtain ⟨hcq, hfq⟩ := G.old hq; go_simp; (first | done | exact rfl); done) | (intro wq; go_simp; (first | done | exact rfl); done))); go_simp; (with_reducible refine hK _ ?_); clear hK K) | fail))
        (with_reducible refine ord_run ?_ hG)
        intro K hK
        go_simp
        go_at_call 23; (with_reducible refine (PO.out _).mono ?_); rintro e y3 ⟨A3, n3, c3, rfl, hw3, ha3, hb3⟩
        replace hG := Grew.trans hG hb3
        (try dsimp only)
        (with_reducible refine hK _ _ hG ?_)
        clear hK K
        (repeat ((first | (with_reducible refine ord_q1 ?_) | (with_reducible refine ord_q0 ?_)); intro K hK; first | (refine Or.inr ⟨?_, ?_⟩; (focus (go_simp; first | done | (simp [undef]; done))); go_simp; (with_reducible refine hK _ ?_); clear hK K) | (refine Or.inl ⟨?_, ?_⟩; (focus (go_simp; done)); apply Exists.intro; refine And.intro ?_ ?_; (focus (first | (intro wq hq; obtain ⟨hcq, hfq⟩ := G.old hq; go_simp; (first | done | exact rfl); done) | (intro wq; go_simp; (first | done | exact rfl); done))); go_simp; (with_reducible refine hK _ ?_); clear hK K) | fail))
        (with_reducible refine ord_run ?_ hG)
        intro K hK
        go_simp
        go_at_call 22; (with_reducible refine (order_any ((D + D)) U A8 A3 n8 n3 c8 c3 _ (hW9.out.grow hG.b) hw3 (by rw [← hW9.out.len]; exact l5.out) (by rw [← hw3.len]; exact l3.out)).mono ?_); rintro e y4 ⟨rfl, hb4⟩; rw [hr.out]
        replace hG := Grew.trans hG hb4
        (try dsimp only)
        (with_reducible refine hK _ _ hG ?_)
        clear hK K
        (repeat ((first | (with_reducible refine ord_q1 ?_) | (with_reducible refine ord_q0 ?_)); intro K hK; first | (refine Or.inr ⟨?_, ?_⟩; (focus (go_simp; first | done | (simp [undef]; done))); go_simp; (with_reducible refine hK _ ?_); clear hK K) | (refine Or.inl ⟨?_, ?_⟩; (focus (go_simp; done)); apply Exists.intro; refine And.intro ?_ ?_; (focus (first | (intro wq hq; obtain ⟨hcq, hfq⟩ := G.old hq; go_simp; (first | done | exact rfl); done) | (intro wq; go_simp; (first | done | exact rfl); done))); go_simp; (with_reducible refine hK _ ?_); clear hK K) | fail))
        (with_reducible refine ord_nil ?_)
        have hB := hb9.trans (hG.b.mono (by have := hb9.size; omega))
        have kV4 := G.cell kV hG.b
        rcases hll with hlt | ⟨h0, hev⟩
        · go_wp2_with fail
          go_ret
          exact ⟨rfl, hB⟩
        · subst h0
          go_wp2_with fail
          go_ret
          exact ⟨rfl, hB⟩
theorem decimalNearest_any (n s sc : Int) (w : World) (h1 : (Lit.int .i64 n).wf = true) (h3 : (Lit.int .i64 sc).wf = true) (ht : Pow10 w) :
    Calls Tryd.prog 4 #[.agg #[.int .i64 n, .int .i64 s], .int .i64 sc] w fun e' w' => e' = .returned (.bool true) ∧ Below w.heap.size w w' := by
  by_cases h : (divN n s 1 0 sc).2.2 = 0
  · obtain ⟨j, q, rfl, rfl, hj, hq, hoj, hoV, hd1, hd2⟩ := divN_ok h
    rcases Nat.lt_or_ge j q with hc | hc
    · exact lawnear_ok n _ j q q w ht hoj hoV hd1 hd2 (.inl ⟨hc, rfl⟩) hq fun D E => near_law (.inl ⟨by omega, rfl⟩) _ D E rfl
    · have hlaw : ∀ D E : Int, D = n * p10 (j - j) + -(quoV n j 1 0 q * p10 (j - q)) → ((D + D < 0 → E = -(D + D)) ∧ (¬ D + D < 0 → E = D + D)) → cmpI E (1 * p10 (j - q)) < 0 ∨ (cmpI E (1 * p10 (j - q)) = 0 ∧ (quoV n j 1 0 q).tmod 2 = 0) := by
        rcases Nat.lt_or_ge q j with h' | h'
        · exact fun D E => near_law (.inr ⟨h', rfl⟩) _ D E rfl
        · exact fun D E => near_law (.inl ⟨by omega, by omega⟩) _ D E rfl
      exact lawnear_ok n _ j q j w ht hoj hoV hd1 hd2 (.inr ⟨hc, rfl⟩) hj hlaw
  · exact lawnear_bad n s sc w h1 ht h
end Go.Proofs.YtoipapcbngknfaaDoor
